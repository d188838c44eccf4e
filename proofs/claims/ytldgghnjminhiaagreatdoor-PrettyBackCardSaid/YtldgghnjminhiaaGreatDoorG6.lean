/-
  WORDS, PLAIN LAWS and WALKS (Mdo Mfm), pressed. (Filled in from templates of this repo.)
-/
import Derived.Laws.OwnMore
import Derived.Test.YtldgghnjminhiaaGreatDoorG2
import Derived.Test.YtldgghnjminhiaaGreatDoorG5
import Derived.Test.YtldgghnjminhiaaGreatDoorG3
import Derived.Test.YtldgghnjminhiaaGreatDoorG4
namespace Go.Proofs.YtldgghnjminhiaaGreatDoor
open Go Go.ChangeAt Go.ChangeShapes Go.RowKit Go.WideShapes
set_option linter.unusedVariables false
set_option linter.unusedSimpArgs false
set_option maxRecDepth 100000
set_option maxHeartbeats 16000000
section
theorem Zs (n:Nat) (hn:n<=9223372036854775807) (w:World):Calls Tryz.prog 29 #[.int .i64 (n:Int)] w λ e w'=>e=.returned (.string (st (Lib.decDigits n)))/\Below w.heap.size w w':=by
 induction n using Nat.strongRecOn generalizing w with
 | _ n ih =>
  have HI:=Xj ih
  clear ih
  have hm:((n:Int)%10)=((n%10:Nat):Int):=by omega
  obtain⟨r,hr⟩:∃ r:Int,(n:Int)%10=r:=⟨_,rfl⟩
  have r0:0<=r:=by omega
  have r1:r<10:=by omega
  have hu8:IntKind.u8.wrap (48+r)=48+r:=by unfold IntKind.wrap;simp[IntKind.signed,IntKind.bits];omega
  have HC:Xq (UInt8.ofNat (48+n%10)=UInt8.ofNat (48+r.toNat)/\(((UInt8.ofNat (48+r.toNat)).toNat:Nat):Int)=48+r):=Xj ⟨by congr 2;omega,by rw[UInt8.toNat_ofNat'];omega⟩
  obtain⟨c,hc⟩:∃ c,UInt8.ofNat (48+r.toNat)=c:=⟨_,rfl⟩
  rw[hc] at HC
  have hkc:∀ W:World,(convert 22 9 (.slice (some ⟨W.heap.size,0,none⟩) 1 1)).run Tryz.prog (W.alloc (.cells #[.int .u8 (48+r)] 5))=.ok (.string (st [c])) (W.alloc (.cells #[.int .u8 (48+r)] 5)):=λ W =>
   run_convert_bytes_back _ 22 9 5 ⟨W.heap.size,0,none⟩ 1 [c] Tryz.underlying22 Tryz.underlying5 Tryz.underlying9 (λ j hj=>by
    have h0:j=0:=by simp at hj;omega
    subst h0
    rw[Vv,Nat.zero_add,cell_of_row _ _ 0 _ _ _ (heap_alloc_new W _)]
    show some (Value.int .u8 (48+r))=some (Value.int .u8 (c.toNat:Int))
    rw[HC.o.2])
  have kc:=hkc w
  clear hc hm hkc
  by_cases h10:n<10
  ·have HD:Xq (Lib.decDigits n=[c]):=Xj (by rw[Lib.decDigits_one h10,<- HC.o.1];congr 3;omega)
   have d0:decide ((10:Int)<=(n:Int))=false:=by rw[decide_eq_false_iff_not];omega
   go_enter Tryz.func29,Tryz.ntmps29
   go_wp2_with fail
   refine bodyPost_ret (v:=.string (st [c])) (by simp[results,Tryz.results29,go_sem]) rfl ?_
   exact⟨by rw[HD.o],Xw _ _⟩
  have HD:Xq (Lib.decDigits n=Lib.decDigits (n/10)++[c]):=Xj (by rw[Lib.decDigits,dif_neg h10,HC.o.1])
  have d0:decide ((10:Int)<=(n:Int))=true:=by rw[decide_eq_true_iff];omega
  have Ho:=λ W=>HI.o (n/10) (by omega) (by omega) W
  rw[show (((n/10:Nat)):Int)=(n:Int)/10 by omega] at Ho
  obtain⟨q,hq⟩:∃ q:Int,(n:Int)/10=q:=⟨_,rfl⟩
  rw[hq] at Ho
  have q0:0<=q:=by omega
  have q1:q<=922337203685477580:=by omega
  have HCL:=Xj Ho
  clear Ho
  go_enter Tryz.func29,Tryz.ntmps29
  go_wp2_with fail
  refine(HCL.o _).mono ?_
  rintro e w2 ⟨rfl,hb⟩
  have HB:=Xj ((Xw w (.cells #[.int .u8 (48+r)] 5)).trans (hb.mono (by simp)))
  have hst:∀ x y:Bt,st x++st y=st (x++y):=λ x y=>by apply ByteArray.ext;simp[ByteArray.data_append]
  have hl:=Zg (n:=n/10) (by omega)
  go_wp2_with fail
  refine bodyPost_ret (v:=.string (st (Lib.decDigits (n/10)++[c]))) (by simp[results,Tryz.results29,go_sem,hst]) rfl ?_
  exact⟨by rw[HD.o],HB.o⟩
theorem Qu (c:UInt8) (hc:c=103\/c=102\/c=112) (k:Nat) (hk:k<10):okN (c::Lib.decDigits k):=by
 rw[Lib.decDigits_one hk]
 have:k=0\/k=1\/k=2\/k=3\/k=4\/k=5\/k=6\/k=7\/k=8\/k=9:=by omega
 refine⟨c,_,rfl,?_,?_,?_,by simp⟩
 ·rcases hc with rfl|rfl|rfl<;>decide
 ·intro x hx
  simp at hx
  subst hx
  rcases this with rfl|rfl|rfl|rfl|rfl|rfl|rfl|rfl|rfl|rfl<;>decide
 rcases hc with rfl|rfl|rfl<;>rcases this with rfl|rfl|rfl|rfl|rfl|rfl|rfl|rfl|rfl|rfl<;>decide
theorem okN_main:okN [109,97,105,110]:=⟨_,_,rfl,by decide,by decide,by decide,by decide⟩
theorem Tryz.infoGlob:(Tryz.prog.info? 60).map (λ i=>(i.zero,i.size,i.bytes))=some (some (.agg #[.string ⟨#[]⟩,.int .i64 0]),2,24):=by kernel_rfl
theorem Tryz.infoFunc:(Tryz.prog.info? 63).map (λ i=>(i.zero,i.size,i.bytes))=some (some (.agg #[.string ⟨#[]⟩,.int .i64 0,.slice none 0 0,.slice none 0 0]),4,72):=by kernel_rfl
theorem Ic (l:List (Bt×Int)) (x:Bt×Int):glc l++[.string (st x.1),.int .i64 x.2]=glc (l++[x]):=by unfold glc;simp
theorem Id (l:List Fr) (f:Fr):frc l++[.string (st f.nm),.int .i64 0,.slice f.pa f.pn f.pc,.slice f.ba f.bn f.bc]=frc (l++[f]):=by unfold frc;simp
abbrev zso:Obj:=.cells #[.slice none 0 0,.slice none 0 0] 29 (0,0)
abbrev Wk (gc:Nat) (va:Value):Obj:=.cells #[.pointer (some ⟨gc,0,none⟩),va,.slice none 0 0,.slice none 0 0,.int .i64 0] 58 (0,0)
structure Kt (w wx:World) (gc gm g:Nat) (va:Value) (gs:List (Bt×Int)):Prop where
 eg:g=w.heap.size
 em:gm=g+1
 lc:gc<g
 res:wx.heap[g]?=some zso
 cod:Cod wx gc
 row:wx.heap[gm]?=some (Wk gc va)
 gl:wx.ownsRow (gm+1) 60 2 va gs.length (glc gs)
 gok:∀ x∈gs,okN x.1/\0<=x.2/\x.2<=5
 gr:w.grownBy wx (some gc)
theorem Kt.grown {w wx wy:World} {gc gm g:Nat} {va:Value} {gs:List (Bt×Int)} (h:Kt w wx gc gm g va gs) (hg:wx.grownBy wy (some gc)) (hc:Cod wy gc):Kt w wy gc gm g va gs :=
 {h with
  res:=(hg.block g (Xv h.res) (by simp;have:=h.lc;omega)).trans h.res
  cod:=hc
  row:=(hg.block gm (Xv h.row) (by simp;have:=h.lc;have:=h.em;omega)).trans h.row
  gl:=Yx h.gl hg (by have:=h.lc;have:=h.em;omega)
  gr:=Xp h.gr hg }
theorem Kt.below {w wx wy:World} {gc gm g:Nat} {va:Value} {gs:List (Bt×Int)} (h:Kt w wx gc gm g va gs) (hb:Below wx.heap.size wx wy):Kt w wy gc gm g va gs :=
 h.grown (Xm hb _) (h.cod.below hb h.cod.lt)
theorem Kt.push {w wx w9:World} {gc gm g g9 c9:Nat} {va:Value} {gs:List (Bt×Int)} {nm:Bt} {z:Int} {ob:Obj} (h:Kt w wx gc gm g va gs) (hn:okN nm) (hz0:0<=z) (hz5:z<=5)
  (hg:(wx.alloc ob).grownBy w9 va.ownBlock) (ho:w9.ownsRow (gm+1) 60 2 (.slice (some ⟨g9,0,none⟩) (gs.length+1) c9) (gs.length+1) (glc gs++[.string (st nm),.int .i64 z])) :
  Kt w (w9.setCell ⟨gm,1,none⟩ (.slice (some ⟨g9,0,none⟩) (gs.length+1) c9)) gc gm g (.slice (some ⟨g9,0,none⟩) (gs.length+1) c9) (gs++[(nm,z)]):=by
 have hA:=Xw wx ob
 have hsA:(wx.alloc ob).heap.size=wx.heap.size+1:=by simp
 have hv:∀ k,va.ownBlock=some k->gm+1<=k:=λ k hk=>(h.gl.lt k hk).1
 have hlt:=Xv h.row
 have em:=h.em
 have lc:=h.lc
 have kp:∀ k,k<wx.heap.size->k<=gm->w9.heap[k]?=wx.heap[k]?:=λ k hk hkm=>(hg.block k (by omega) (λ e=>by have:=hv k e.symm;omega)).trans (hA.block k hk)
 have hjf:=Xu w9 gm 1 (.slice (some ⟨g9,0,none⟩) (gs.length+1) c9)
 exact
 {eg:=h.eg,em:=h.em,lc:=h.lc
  res:=(heap_setCell_other w9 ⟨gm,1,none⟩ g _ (by show g≠gm;omega)).trans ((kp g (Xv h.res) (by omega)).trans h.res)
  cod:=(h.cod.keep λ k hk=>kp k (by omega) (by omega)).keep λ k hk=>heap_setCell_other w9 ⟨gm,1,none⟩ k _ (by show k≠gm;omega)
  row:=heap_setCell_same _ gm 1 _ _ _ ((kp gm hlt (Nat.le_refl _)).trans h.row)
  gl:=by
   have:=Yx ho hjf (by omega)
   rw[Ic gs (nm,z)] at this
   simpa using this
  gok:=by
   intro x hx
   rw[List.mem_append] at hx
   rcases hx with hx|hx
   ·exact h.gok x hx
   simp at hx;subst hx;exact⟨hn,hz0,hz5⟩
  gr:=by
   have e1:=h.eg
   exact Yu (p:=⟨gm,1,none⟩) ⟨hg.os.trans (hA.os.trans h.gr.os),hg.tape.trans (hA.tape.trans h.gr.tape),hg.output.trans (hA.output.trans h.gr.output),by have:=h.gr.size;have:=hg.size;omega,λ k hk hn=>by
    have:=h.gr.size
    rw[kp k (by omega) (by omega),h.gr.block k hk hn]⟩ (by show w.heap.size<=gm;omega) }
def Hv (w:World) (P:Nat->Prop) (f:Fr) (F:Fn):Prop :=
 f.nm=F.nm/\f.pn=F.ps.length/\f.pn<=f.pc/\f.pc<=maxLen/\(f.pa=none->f.pc=0)/\Wj w P f.pa (Qw F.ps)/\(∀ p∈F.ps,okN p)/\Xf w P F.bd (.slice f.ba f.bn f.bc) /\
 F.bd.wf/\F.bd.cst<=9100/\F.bd.nst<=3/\F.bd.hgt<=3
def Qk (w:World) (P:Nat->Prop):List Fr->List Fn->Prop
 | [],[]=>True
 | f::fs,F::Fs=>Hv w P f F/\Qk w P fs Fs
 | _,_=>False
theorem Hv.keep {w w':World} {P Q:Nat->Prop} {f:Fr} {F:Fn} (h:Hv w P f F) (hk:∀ b,P b->b<w.heap.size->w'.heap[b]?=w.heap[b]?/\Q b) (hs:w.heap.size<=w'.heap.size):Hv w' Q f F:=by
 obtain⟨h1,h2,h3,h4,h5,h6,h7,h8,h9⟩:=h
 exact⟨h1,h2,h3,h4,h5,h6.keep hk hs,h7,h8.keep hk hs,h9⟩
theorem Qk.keep {w w':World} {P Q:Nat->Prop} {fs:List Fr} {Fs:List Fn} (h:Qk w P fs Fs) (hk:∀ b,P b->b<w.heap.size->w'.heap[b]?=w.heap[b]?/\Q b) (hs:w.heap.size<=w'.heap.size):Qk w' Q fs Fs:=by
 induction fs generalizing Fs with
 | nil=>cases Fs with
  | nil=>trivial
  | cons F Fs=>exact h
 | cons f fs ih=>cases Fs with
  | nil=>exact h
  | cons F Fs=>exact⟨h.1.keep hk hs,ih h.2⟩
theorem Qk.len {w:World} {P:Nat->Prop} {fs:List Fr} {Fs:List Fn} (h:Qk w P fs Fs):fs.length=Fs.length:=by
 induction fs generalizing Fs with
 | nil=>cases Fs with
  | nil=>rfl
  | cons F Fs=>exact absurd h id
 | cons f fs ih=>cases Fs with
  | nil=>exact absurd h id
  | cons F Fs=>simp[ih h.2]
theorem Qk.push {w:World} {P:Nat->Prop} {fs:List Fr} {Fs:List Fn} {f:Fr} {F:Fn} (h:Qk w P fs Fs) (k:Hv w P f F):Qk w P (fs++[f]) (Fs++[F]):=by
 induction fs generalizing Fs with
 | nil=>cases Fs with
  | nil=>exact⟨k,trivial⟩
  | cons F Fs=>exact absurd h id
 | cons f fs ih=>cases Fs with
  | nil=>exact absurd h id
  | cons F Fs=>exact⟨h.1,ih h.2⟩
theorem Qk.get {w:World} {P:Nat->Prop} {fs:List Fr} {Fs:List Fn} (h:Qk w P fs Fs) {j:Nat} {f:Fr} (hj:fs[j]?=some f):∃ F,Fs[j]?=some F/\Hv w P f F:=by
 induction fs generalizing Fs j with
 | nil=>simp at hj
 | cons f' fs ih=>cases Fs with
  | nil=>exact absurd h id
  | cons F Fs =>
   cases j with
   | zero=>simp at hj;subst hj;exact⟨F,rfl,h.1⟩
   | succ j=>exact ih h.2 (by simpa using hj)
theorem Qk.set {w:World} {P:Nat->Prop} {fs:List Fr} {Fs:List Fn} {f:Fr} {F:Fn} (h:Qk w P fs Fs) (k:Hv w P f F) (j:Nat):Qk w P (fs.set j f) (Fs.set j F):=by
 induction fs generalizing Fs j with
 | nil=>cases Fs with
  | nil=>trivial
  | cons F Fs=>exact absurd h id
 | cons f' fs ih=>cases Fs with
  | nil=>exact absurd h id
  | cons F' Fs =>
   cases j with
   | zero=>exact⟨k,h.2⟩
   | succ j=>exact⟨h.1,ih h.2 j⟩
theorem xjd (w:World) (cs:Array Value) (base e s n:Nat) (hs:cs.size=n*s) (hb:base<=w.heap.size) (hn:n<=maxLen):(w.alloc (.cells cs e)).ownsRow base e s (.slice (some ⟨w.heap.size,0,none⟩) n n) n cs.toList :=
 ⟨by simpa using hs,.inr ⟨w.heap.size,n,cs,rfl,hb,heap_alloc_new w _,Nat.le_refl _,hn,hs,List.take_of_length_le (by simp;omega)⟩⟩
def PB (gm:Nat) (M:Mk):Nat->Prop:=λ b=>gm<b/\some b≠M.vl.ownBlock/\some b≠M.vb.ownBlock
structure Jz (w wx:World) (gc gm g:Nat) (M:Mk) (Fs:List Fn):Prop where
 eg:g=w.heap.size
 em:gm=g+1
 lc:gc<g
 res:wx.heap[g]?=some zso
 mkr:Yg wx gc gm M
 gr:w.grownBy wx (some gc)
 fns:Qk wx (PB gm M) M.fs Fs
theorem Jz.grown {w wx wy:World} {gc gm g:Nat} {M:Mk} {Fs:List Fn} (h:Jz w wx gc gm g M Fs) (hg:wx.grownBy wy (some gc)) (hc:Cod wy gc):Jz w wy gc gm g M Fs :=
 {h with
  res:=(hg.block g (Xv h.res) (by simp;have:=h.lc;omega)).trans h.res
  mkr:=h.mkr.grown hg hc
  gr:=Xp h.gr hg
  fns:=h.fns.keep (λ b hb hlt=>⟨hg.block b hlt (by simp;have:=hb.1;have:=h.lc;have:=h.em;omega),hb⟩) hg.size }
theorem Jz.below {w wx wy:World} {gc gm g:Nat} {M:Mk} {Fs:List Fn} (h:Jz w wx gc gm g M Fs) (hb:Below wx.heap.size wx wy):Jz w wy gc gm g M Fs :=
 h.grown (Xm hb _) (h.mkr.cod.below hb h.mkr.cod.lt)
theorem Jz.far {w wx wy:World} {gc gm g:Nat} {M:Mk} {Fs:List Fn} {r:Option Nat} (h:Jz w wx gc gm g M Fs) (hg:wx.grownBy wy r) (hr:∀ k,r=some k->gm<k/\M.va.ownBlock≠some k/\M.vb.ownBlock≠some k/\M.vl.ownBlock≠some k)
  (hf:Qk wx (λ b=>PB gm M b/\some b≠r) M.fs Fs):Jz w wy gc gm g M Fs :=
 have e1:=h.eg
 have e2:=h.em
 have e3:=h.lc
 have key:∀ {e k n:Nat} {u:Value} {l:List Value},(∀ q,r=some q->u.ownBlock≠some q)->wx.ownsRow (gm+1) e k u n l->wy.ownsRow (gm+1) e k u n l:=λ hq h1 =>
  Yv h1 (λ q hq2=>hg.block q (h1.lt q hq2).2 (λ e=>hq q e.symm hq2))
 {h with
  res:=(hg.block g (Xv h.res) (λ e=>by have:=(hr g e.symm).1;omega)).trans h.res
  mkr:={ h.mkr with
   cod:=h.mkr.cod.keep λ k hk=>hg.block k (by have:=h.mkr.cod.lt;omega) (λ e=>by have:=(hr k e.symm).1;have:=h.mkr.lt;omega)
   row:=(hg.block gm (Xv h.mkr.row) (λ e=>by have:=(hr gm e.symm).1;omega)).trans h.mkr.row
   gl:=key (λ q hq=>(hr q hq).2.1) h.mkr.gl
   fn:=key (λ q hq=>(hr q hq).2.2.1) h.mkr.fn
   lo:=key (λ q hq=>(hr q hq).2.2.2) h.mkr.lo }
  gr:=⟨hg.os.trans h.gr.os,hg.tape.trans h.gr.tape,hg.output.trans h.gr.output,Nat.le_trans h.gr.size hg.size,λ k hk hn=>(hg.block k (Nat.lt_of_lt_of_le hk h.gr.size) (λ e=>by have:=(hr k e.symm).1;omega)).trans (h.gr.block k hk hn)⟩
  fns:=hf.keep (λ b hb hlt=>⟨hg.block b hlt hb.2,hb.1⟩) hg.size }
theorem Kt.main {w wx:World} {gc gm g:Nat} {va:Value} {gs:List (Bt×Int)} (h:Kt w wx gc gm g va gs) (hn:gs.length<=4) :
  Jz w ((wx.alloc (.cells #[.string (st [109,97,105,110]),.int .i64 0,.slice none 0 0,.slice none 0 0] 63)).setCell ⟨gm,2,none⟩ (.slice (some ⟨wx.heap.size,0,none⟩) 1 1)) gc gm g
   ⟨va,.slice (some ⟨wx.heap.size,0,none⟩) 1 1,.slice none 0 0,gs,[⟨[109,97,105,110],none,0,0,none,0,0⟩],[],0⟩ [⟨[109,97,105,110],[],.nil⟩]:=by
 have hA:=Xw wx (.cells #[.string (st [109,97,105,110]),.int .i64 0,.slice none 0 0,.slice none 0 0] 63)
 have hjf:=Xu (wx.alloc (.cells #[.string (st [109,97,105,110]),.int .i64 0,.slice none 0 0,.slice none 0 0] 63)) gm 2 (.slice (some ⟨wx.heap.size,0,none⟩) 1 1)
 have hlt:=Xv h.row
 have em:=h.em
 have lc:=h.lc
 have eg:=h.eg
 have hgA:=h.below hA
 have hjj:=xjd wx #[.string (st [109,97,105,110]),.int .i64 0,.slice none 0 0,.slice none 0 0] (gm+1) 63 4 1 rfl (by omega) (by simp[maxLen])
 exact
 {eg:=h.eg,em:=h.em,lc:=h.lc
  res:=(heap_setCell_other _ ⟨gm,2,none⟩ g _ (by show g≠gm;omega)).trans hgA.res
  mkr :=
  {cod:=hgA.cod.keep λ k hk=>heap_setCell_other _ ⟨gm,2,none⟩ k _ (by show k≠gm;omega)
   lt:=by omega
   row:=heap_setCell_same _ gm 2 _ _ _ hgA.row
   gl:=Yx hgA.gl hjf (by omega)
   fn:=Yx hjj hjf (by omega)
   lo:=World.ownsRow_nil _ _ _ _
   gok:=h.gok,fok:=by intro f hf;simp at hf;subst hf;exact⟨okN_main,by simp⟩,lok:=by simp,gn:=hn,fn1:=by simp,fn2:=by simp,ln:=by simp }
  gr:=Yu (p:=⟨gm,2,none⟩) hgA.gr (by show w.heap.size<=gm;omega)
  fns:=⟨⟨rfl,rfl,Nat.le_refl _,by simp[maxLen],λ _=>rfl,λ e=>absurd rfl e,by simp,Xf.nil _ _,trivial,by simp[Sf.cst],by simp[Sf.nst],by simp[Sf.hgt]⟩,trivial⟩ }
theorem Jz.push {w wx w9:World} {gc gm g g9 c9:Nat} {M:Mk} {Fs:List Fn} {f:Fr} {F:Fn} {ob:Obj} (h:Jz w wx gc gm g M Fs) (hl0:M.vl=.slice none 0 0) (hok:okN f.nm/\f.pn<=2) (hn:M.fs.length<=3) (hF:Hv wx (λ b=>gm<b/\some b≠M.vb.ownBlock) f F)
  (hg:(wx.alloc ob).grownBy w9 M.vb.ownBlock) (h9:M.vb.ownBlock=some g9\/g9=(wx.alloc ob).heap.size)
  (ho:w9.ownsRow (gm+1) 63 4 (.slice (some ⟨g9,0,none⟩) (M.fs.length+1) c9) (M.fs.length+1) (frc M.fs++[.string (st f.nm),.int .i64 0,.slice f.pa f.pn f.pc,.slice f.ba f.bn f.bc])) :
  Jz w (w9.setCell ⟨gm,2,none⟩ (.slice (some ⟨g9,0,none⟩) (M.fs.length+1) c9)) gc gm g { M with vb:=.slice (some ⟨g9,0,none⟩) (M.fs.length+1) c9,fs:=M.fs++[f] } (Fs++[F]):=by
 have hA:=Xw wx ob
 have hsA:(wx.alloc ob).heap.size=wx.heap.size+1:=by simp
 have hvb:∀ k,M.vb.ownBlock=some k->gm+1<=k/\k<wx.heap.size:=λ k hk=>h.mkr.fn.lt k hk
 have em:=h.em
 have lc:=h.lc
 have eg:=h.eg
 have hs9:=hg.size
 have kp:∀ k,k<wx.heap.size->M.vb.ownBlock≠some k->w9.heap[k]?=wx.heap[k]?:=λ k hk hne=>(hg.block k (by omega) (λ e=>hne e.symm)).trans (hA.block k hk)
 have hjf:=Xu w9 gm 2 (.slice (some ⟨g9,0,none⟩) (M.fs.length+1) c9)
 have hur:∀ k,k<=gm->k<wx.heap.size->w9.heap[k]?=wx.heap[k]?:=λ k hk hlt=>kp k hlt (λ e=>by have:=(hvb k e).1;omega)
 have hkp:∀ b,gm<b->some b≠M.vb.ownBlock->b<wx.heap.size->(w9.setCell ⟨gm,2,none⟩ (.slice (some ⟨g9,0,none⟩) (M.fs.length+1) c9)).heap[b]?=wx.heap[b]?/\PB gm { M with vb:=.slice (some ⟨g9,0,none⟩) (M.fs.length+1) c9,fs:=M.fs++[f] } b:=λ b h1 h2 h3 =>
  ⟨(heap_setCell_other w9 ⟨gm,2,none⟩ b _ (by show b≠gm;omega)).trans (kp b h3 (λ e=>h2 e.symm)),h1,by show some b≠M.vl.ownBlock;rw[hl0];simp[Value.ownBlock],by
   show some b≠some g9
   rcases h9 with h9|h9
   ·rw[<- h9];exact h2
   simp;omega⟩
 have hsz:wx.heap.size<=(w9.setCell ⟨gm,2,none⟩ (.slice (some ⟨g9,0,none⟩) (M.fs.length+1) c9)).heap.size:=by simp[World.setCell];omega
 exact
 {eg:=h.eg,em:=h.em,lc:=h.lc
  res:=(heap_setCell_other w9 ⟨gm,2,none⟩ g _ (by show g≠gm;omega)).trans ((hur g (by omega) (Xv h.res)).trans h.res)
  mkr:={ h.mkr with
   cod:=(h.mkr.cod.keep λ k hk=>hur k (by omega) (by have:=h.mkr.cod.lt;omega)).keep λ k hk=>heap_setCell_other w9 ⟨gm,2,none⟩ k _ (by show k≠gm;omega)
   row:=heap_setCell_same _ gm 2 _ _ _ ((hur gm (Nat.le_refl _) (Xv h.mkr.row)).trans h.mkr.row)
   gl:=Yx (Yv h.mkr.gl (λ q hq=>kp q (h.mkr.gl.lt q hq).2 (Wv h.mkr.gl h.mkr.fn (by decide) q hq))) hjf (by omega)
   fn:=by
    have:=Yx ho hjf (by omega)
    rw[Id] at this
    simpa using this
   lo:=Yx (Yv h.mkr.lo (λ q hq=>kp q (h.mkr.lo.lt q hq).2 (Wv h.mkr.lo h.mkr.fn (by decide) q hq))) hjf (by omega)
   fok:=by
    intro x hx
    rw[List.mem_append] at hx
    rcases hx with hx|hx
    ·exact h.mkr.fok x hx
    simp at hx;subst hx;exact hok
   fn1:=by show 1<=(M.fs++[f]).length;simp
   fn2:=by show (M.fs++[f]).length<=4;simp;omega }
  gr:=Yu (p:=⟨gm,2,none⟩) ⟨hg.os.trans (hA.os.trans h.gr.os),hg.tape.trans (hA.tape.trans h.gr.tape),hg.output.trans (hA.output.trans h.gr.output),by have:=h.gr.size;omega,λ k hk hne=>by
   have:=h.gr.size
   rw[hur k (by omega) (by omega),h.gr.block k hk hne]⟩ (by show w.heap.size<=gm;omega)
  fns:=(h.fns.keep (λ b hb hlt=>hkp b hb.1 hb.2.2 hlt) hsz).push (hF.keep (λ b hb hlt=>hkp b hb.1 hb.2 hlt) hsz) }
abbrev Ab (nm:Bt) (pa:Option Addr) (n c:Nat):Obj:=.cells #[.string (st nm),.int .i64 0,.slice pa n c,.slice none 0 0] 63 (0,0)
structure PSt (w wx:World) (gc gm g:Nat) (M:Mk) (Fs:List Fn) (g7:Nat) (nm:Bt) (pa:Option Addr) (pc:Nat) (ps:List Bt):Prop where
 src:Jz w wx gc gm g M Fs
 row:wx.heap[g7]?=some (Ab nm pa ps.length pc)
 own:wx.ownsRow (g7+1) 9 1 (.slice pa ps.length pc) ps.length (Qw ps)
 fns:Qk wx (λ b=>PB gm M b/\b<g7) M.fs Fs
 lt:gm<g7
 rows:∀ k,(M.va.ownBlock=some k\/M.vb.ownBlock=some k\/M.vl.ownBlock=some k)->k<g7
 ok:∀ p∈ps,okN p
section
variable {w wx wy:World} {gc gm g g7 pc:Nat} {M:Mk} {Fs:List Fn} {nm:Bt} {pa:Option Addr} {ps:List Bt}
theorem PSt.start (h:Jz w wx gc gm g M Fs):PSt w (wx.alloc (Ab nm none 0 0)) gc gm g M Fs wx.heap.size nm none 0 [] :=
 have hb:=Xw wx (Ab nm none 0 0)
 {src:=h.below hb
  row:=heap_alloc_new wx _
  own:=World.ownsRow_nil _ _ _ _
  fns:=h.fns.keep (λ b hb2 hlt=>⟨hb.block b hlt,hb2,hlt⟩) hb.size
  lt:=Xv h.mkr.row
  rows:=λ k hk=>by
   rcases hk with hk|hk|hk
   ·exact(h.mkr.gl.lt k hk).2
   ·exact(h.mkr.fn.lt k hk).2
   exact(h.mkr.lo.lt k hk).2
  ok:=by simp }
theorem PSt.grown (h:PSt w wx gc gm g M Fs g7 nm pa pc ps) (hg:wx.grownBy wy (some gc)) (hc:Cod wy gc):PSt w wy gc gm g M Fs g7 nm pa pc ps :=
 have e1:=h.src.lc
 have e2:=h.src.em
 have e3:=h.lt
 {h with
  src:=h.src.grown hg hc
  row:=(hg.block g7 (Xv h.row) (by simp;omega)).trans h.row
  own:=Yx h.own hg (by omega)
  fns:=h.fns.keep (λ b hb hlt=>⟨hg.block b hlt (by simp;have:=hb.1.1;omega),hb⟩) hg.size }
theorem PSt.below (h:PSt w wx gc gm g M Fs g7 nm pa pc ps) (hb:Below wx.heap.size wx wy):PSt w wy gc gm g M Fs g7 nm pa pc ps :=
 h.grown (Xm hb _) (h.src.mkr.cod.below hb h.src.mkr.cod.lt)
theorem PSt.far {r:Option Nat} (h:PSt w wx gc gm g M Fs g7 nm pa pc ps) (hg:wx.grownBy wy r) (hr:∀ k,r=some k->g7<=k):Jz w wy gc gm g M Fs/\Qk wy (λ b=>PB gm M b/\b<g7) M.fs Fs:=by
 have e3:=h.lt
 refine⟨h.src.far hg (λ k hk=>?_) (h.fns.keep (λ b hb _=>⟨rfl,hb.1,λ e=>by have:=hr b e.symm;have:=hb.2;omega⟩) (Nat.le_refl _)),h.fns.keep (λ b hb hlt=>⟨hg.block b hlt (λ e=>by have:=hr b e.symm;have:=hb.2;omega),hb⟩) hg.size⟩
 have h7:=hr k hk
 exact⟨by omega,λ e=>by have:=h.rows k (.inl e);omega,λ e=>by have:=h.rows k (.inr (.inl e));omega,λ e=>by have:=h.rows k (.inr (.inr e));omega⟩
theorem PSt.push {w9:World} {g9 c9:Nat} {p:Bt} {ob:Obj} (h:PSt w wx gc gm g M Fs g7 nm pa pc ps) (hp:okN p) (hg:(wx.alloc ob).grownBy w9 (Value.slice pa ps.length pc).ownBlock)
  (ho:w9.ownsRow (g7+1) 9 1 (.slice (some ⟨g9,0,none⟩) (ps.length+1) c9) (ps.length+1) (Qw ps++[.string (st p)])) :
  PSt w (w9.setCell ⟨g7,2,none⟩ (.slice (some ⟨g9,0,none⟩) (ps.length+1) c9)) gc gm g M Fs g7 nm (some ⟨g9,0,none⟩) c9 (ps++[p]):=by
 have hA:=h.below (Xw wx ob)
 have hv:∀ k,(Value.slice pa ps.length pc).ownBlock=some k->g7+1<=k:=λ k hk=>(h.own.lt k hk).1
 have h9:=hA.far hg (λ k hk=>by have:=hv k hk;omega)
 have hjf:=Xu w9 g7 2 (.slice (some ⟨g9,0,none⟩) (ps.length+1) c9)
 have hqq:w9.heap[g7]?=some (Ab nm pa ps.length pc):=(hg.block g7 (Xv hA.row) (λ e=>by have:=hv g7 e.symm;omega)).trans hA.row
 have e3:=h.lt
 have HJ:(ps++[p]).length=ps.length+1:=by simp
 exact
 {src:=h9.1.far hjf (λ k hk=>by
   injection hk with hk
   subst hk
   exact⟨e3,λ e=>by have:=h.rows g7 (.inl e);omega,λ e=>by have:=h.rows g7 (.inr (.inl e));omega,λ e=>by have:=h.rows g7 (.inr (.inr e));omega⟩) (h9.2.keep (λ b hb _=>⟨rfl,hb.1,by simp;have:=hb.2;omega⟩) (Nat.le_refl _))
  row:=by rw[HJ];exact heap_setCell_same _ g7 2 _ _ _ hqq
  own:=by
   have:=Yx ho hjf (by omega)
   rw[HJ]
   simpa [Qw] using this
  fns:=h9.2.keep (λ b hb _=>⟨heap_setCell_other w9 ⟨g7,2,none⟩ b _ (by have:=hb.2;show b≠g7;omega),hb⟩) hjf.size
  lt:=h.lt,rows:=h.rows
  ok:=by
   intro x hx
   rw[List.mem_append] at hx
   rcases hx with hx|hx
   ·exact h.ok x hx
   simp at hx;subst hx;exact hp }
theorem PSt.fn (h:PSt w wx gc gm g M Fs g7 nm pa pc ps):Hv wx (λ b=>gm<b/\some b≠M.vb.ownBlock) ⟨nm,pa,ps.length,pc,none,0,0⟩ ⟨nm,ps,.nil⟩:=by
 obtain⟨a,cap,e1,h1,h2,h3,h4,h5⟩:=Yd.of_own h.own
 injection e1 with e1 e2 e3
 subst e1 e3
 refine⟨rfl,rfl,h2,h3,Wh h.own,λ hx=>?_,h.ok,Xf.nil _ _,trivial,by simp[Sf.cst],by simp[Sf.nst],by simp[Sf.hgt]⟩
 obtain⟨b,off,e,hb,hc⟩:=h4 hx
 have:=h5 _ e
 have hb2:g7+1<=b:=this
 exact⟨b,off,e,⟨by have:=h.lt;omega,λ e=>by have:=h.rows b (.inr (.inl e.symm));omega⟩,hb,hc⟩
end
theorem xqk (fs:List Fr) (i:Nat) (f:Fr) (a:Option Addr) (n c:Nat) (h:fs[i]?=some f):(frc fs).set (i*4+3) (.slice a n c)=frc (fs.set i { f with ba:=a,bn:=n,bc:=c }):=by
 induction fs generalizing i with
 | nil=>simp at h
 | cons f' fs ih =>
  cases i with
  | zero=>simp at h;subst h;rfl
  | succ i =>
   have:=ih i (by simpa using h)
   have e1:(i+1)*4+3=i*4+3+1+1+1+1:=by omega
   rw[e1]
   show _::_::_::_::(frc fs).set (i*4+3) _=_
   rw[this]
   rfl
theorem Gk {w:World} {base base' e k n:Nat} {v:Value} {l:List Value} (h:w.ownsRow base e k v n l) (hb:base'<=base):w.ownsRow base' e k v n l:=by
 refine⟨h.1,?_⟩
 rcases h.2 with h2|⟨g,cap,cur,rfl,h3,h4⟩
 ·exact .inl h2
 exact .inr ⟨g,cap,cur,rfl,by omega,h4⟩
section
variable {w wx wy:World} {gc gm g:Nat} {M M':Mk} {Fs:List Fn}
theorem Jz.step (h:Jz w wx gc gm g M Fs) (hc:Chg wx wy gc gm M M') (hm:Yg wy gc gm M'):Jz w wy gc gm g M' Fs :=
 have eg:=h.eg
 have em:=h.em
 have lc:=h.lc
 have hvl:∀ k,M.vl.ownBlock=some k->gm+1<=k:=λ k hk=>(h.mkr.lo.lt k hk).1
 {eg:=h.eg,em:=h.em,lc:=h.lc
  res:=(hc.block g (Xv h.res) (by omega) (by omega) (λ e=>by have:=hvl g e.symm;omega)).trans h.res
  mkr:=hm
  gr:=⟨hc.os.trans h.gr.os,hc.tape.trans h.gr.tape,hc.output.trans h.gr.output,Nat.le_trans h.gr.size hc.size,λ k hk hn=>(hc.block k (Nat.lt_of_lt_of_le hk h.gr.size) (λ e=>hn (by rw[e])) (by omega) (λ e=>by have:=hvl k e.symm;omega)).trans (h.gr.block k hk hn)⟩
  fns:=by
   rw[hc.gf]
   exact h.fns.keep (λ b hb hlt=>⟨hc.block b hlt (by have:=hb.1;omega) (by have:=hb.1;omega) hb.2.1,hb.1,λ e=>hb.2.1 (hc.vl b e.symm hlt).symm,by rw[hc.gb];exact hb.2.2⟩) hc.size }
theorem Jz.locals {w9:World} {v:Value} {ps:List Bt} (h:Jz w wx gc gm g M Fs) (hg:wx.grownBy w9 none) (ho:w9.ownsRow wx.heap.size 9 1 v ps.length (Qw ps)) (hok:∀ p∈ps,okN p) (hn:ps.length<=2) :
  Jz w ((w9.setCell ⟨gm,3,none⟩ v).setCell ⟨gm,4,none⟩ (.int .i64 7)) gc gm g { M with vl:=v,ls:=ps,bud:=7 } Fs:=by
 have eg:=h.eg
 have em:=h.em
 have lc:=h.lc
 have hlt:=Xv h.mkr.row
 have s1:=Xu w9 gm 3 v
 have s2:=Xu (w9.setCell ⟨gm,3,none⟩ v) gm 4 (.int .i64 7)
 have s12:=Xp s1 s2
 have hs:=hg.size
 have kp:∀ b,b<wx.heap.size->b≠gm->((w9.setCell ⟨gm,3,none⟩ v).setCell ⟨gm,4,none⟩ (.int .i64 7)).heap[b]?=wx.heap[b]?:=λ b hb hne=>(s12.block b (by omega) (by simp;exact hne)).trans (hg.block b hb (by simp))
 have own2:∀ {e k n:Nat} {u:Value} {l:List Value},wx.ownsRow (gm+1) e k u n l->((w9.setCell ⟨gm,3,none⟩ v).setCell ⟨gm,4,none⟩ (.int .i64 7)).ownsRow (gm+1) e k u n l:=λ h1=>Yv h1 (λ q hq=>kp q (h1.lt q hq).2 (by have:=(h1.lt q hq).1;omega))
 exact
 {eg:=h.eg,em:=h.em,lc:=h.lc
  res:=(kp g (Xv h.res) (by omega)).trans h.res
  mkr:={ h.mkr with
   cod:=h.mkr.cod.keep λ k hk=>kp k (by have:=h.mkr.cod.lt;omega) (by omega)
   row:=heap_setCell_same _ gm 4 _ _ _ (heap_setCell_same _ gm 3 _ _ _ ((hg.block gm hlt (by simp)).trans h.mkr.row))
   gl:=own2 h.mkr.gl
   fn:=own2 h.mkr.fn
   lo:=Gk (Yv ho (λ q hq=>s12.block q (ho.lt q hq).2 (by simp;have:=(ho.lt q hq).1;omega))) (by omega)
   lok:=hok
   ln:=by show ps.length<=10;omega }
  gr:=Yu (p:=⟨gm,4,none⟩) (Yu (p:=⟨gm,3,none⟩) ⟨hg.os.trans h.gr.os,hg.tape.trans h.gr.tape,hg.output.trans h.gr.output,Nat.le_trans h.gr.size hg.size,λ k hk hn=>(hg.block k (Nat.lt_of_lt_of_le hk h.gr.size) (by simp)).trans (h.gr.block k hk hn)⟩ (by show w.heap.size<=gm;omega)) (by show w.heap.size<=gm;omega)
  fns:=h.fns.keep (λ b hb hlt=>⟨kp b hlt (by have:=hb.1;omega),hb.1,λ e=>by have:=(ho.lt b e.symm).1;omega,hb.2.2⟩) (by simp[World.setCell];omega) }
theorem Jz.body {bf cf i c:Nat} {f:Fr} {F:Fn} {S:Sf} {a:Option Addr} (h:Jz w wx gc gm g M Fs) (hvb:M.vb=.slice (some ⟨bf,0,none⟩) M.fs.length cf) (hf:M.fs[i]?=some f) (hF:Fs[i]?=some F)
  (hs:Xf wx (PB gm M) S (.slice a S.len c)) (h1:S.wf) (h2:S.cst<=9100) (h3:S.nst<=3) (h4:S.hgt<=3) :
  Jz w (wx.setCell ⟨bf,i*4+3,none⟩ (.slice a S.len c)) gc gm g { M with fs:=M.fs.set i { f with ba:=a,bn:=S.len,bc:=c } } (Fs.set i { F with bd:=S }):=by
 have eg:=h.eg
 have em:=h.em
 have lc:=h.lc
 have hfn:=h.mkr.fn
 rw[hvb] at hfn
 have hbf:=hfn.lt bf rfl
 have hst:=(hfn.stored (i*4+3) (.slice a S.len c))
 rw[xqk _ _ _ _ _ _ hf] at hst
 have hjf:=Xu wx bf (i*4+3) (.slice a S.len c)
 have HJ:(M.fs.set i { f with ba:=a,bn:=S.len,bc:=c }).length=M.fs.length:=by simp
 have kp:∀ b,b≠bf->(wx.setCell ⟨bf,i*4+3,none⟩ (.slice a S.len c)).heap[b]?=wx.heap[b]?:=λ b hb=>heap_setCell_other wx ⟨bf,i*4+3,none⟩ b _ hb
 have hne:∀ {e k n:Nat} {u:Value} {l:List Value},e≠63->wx.ownsRow (gm+1) e k u n l->(wx.setCell ⟨bf,i*4+3,none⟩ (.slice a S.len c)).ownsRow (gm+1) e k u n l:=λ he h1=>Yv h1 (λ q hq=>kp q (λ e=>Wv h1 hfn he q hq (by rw[e];rfl)))
 have hsz:wx.heap.size<=(wx.setCell ⟨bf,i*4+3,none⟩ (.slice a S.len c)).heap.size:=by simp[World.setCell]
 have hP:∀ b,PB gm M b->b<wx.heap.size->(wx.setCell ⟨bf,i*4+3,none⟩ (.slice a S.len c)).heap[b]?=wx.heap[b]?/\PB gm { M with fs:=M.fs.set i { f with ba:=a,bn:=S.len,bc:=c } } b:=λ b hb _=>⟨kp b (λ e=>hb.2.2 (by rw[hvb,e];rfl)),hb⟩
 obtain⟨F',hF',hat⟩:=h.fns.get hf
 rw[hF] at hF'
 injection hF' with hF'
 subst hF'
 exact
 {eg:=h.eg,em:=h.em,lc:=h.lc
  res:=(kp g (by omega)).trans h.res
  mkr:={ h.mkr with
   cod:=h.mkr.cod.keep λ k hk=>kp k (by omega)
   row:=(kp gm (by omega)).trans h.mkr.row
   gl:=hne (by decide) h.mkr.gl
   fn:=by
    show World.ownsRow _ (gm+1) 63 4 M.vb (M.fs.set i _).length _
    rw[HJ,hvb]
    exact hst.1
   lo:=hne (by decide) h.mkr.lo
   fok:=by
    intro x hx
    have:=List.mem_or_eq_of_mem_set hx
    rcases this with hx|hx
    ·exact h.mkr.fok x hx
    subst hx;exact h.mkr.fok f (List.mem_of_getElem? hf)
   fn1:=by show 1<=(M.fs.set i _).length;rw[HJ];exact h.mkr.fn1
   fn2:=by show (M.fs.set i _).length<=4;rw[HJ];exact h.mkr.fn2 }
  gr:=Yu (p:=⟨bf,i*4+3,none⟩) h.gr (by show w.heap.size<=bf;omega)
  fns:=(h.fns.keep hP hsz).set (by
   obtain⟨a1,a2,a3,a4,a5,a6,a7,a8,_⟩:=hat
   exact⟨a1,a2,a3,a4,a5,a6.keep hP hsz,a7,hs.keep hP hsz,h1,h2,h3,h4⟩) i }
end
def Nv (gc:Nat) (w:World) (e:Ending) (w':World):Prop :=
 ∃ (M:Mk) (Fs:List Fn),e=.returned (.agg #[M.va,M.vb])/\Cod w' gc/\w.grownBy w' (some gc)/\w'.ownsRow w.heap.size 60 2 M.va M.gs.length (glc M.gs)/\w'.ownsRow w.heap.size 63 4 M.vb M.fs.length (frc M.fs)/\Qk w' (λ b=>w.heap.size<=b) M.fs Fs /\
  (∀ x∈M.gs,okN x.1/\0<=x.2/\x.2<=5)/\M.gs.length<=4/\(∀ f∈M.fs,okN f.nm/\f.pn<=2)/\1<=M.fs.length/\M.fs.length<=4
theorem Jz.fin {w wx:World} {gc gm g:Nat} {M:Mk} {Fs:List Fn} (h:Jz w wx gc gm g M Fs):∀ W,W=(wx.setCell ⟨g,0,none⟩ M.va).setCell ⟨g,1,none⟩ M.vb ->
  W.cell? ⟨g,0,none⟩=some M.va/\W.cell? ⟨g,1,none⟩=some M.vb/\Xq (Nv gc w (.returned (.agg #[M.va,M.vb])) W):=λ W hW=>by
 subst hW
 have eg:=h.eg
 have em:=h.em
 have lc:=h.lc
 have hr:=heap_setCell_same _ g 1 _ _ M.vb (heap_setCell_same _ g 0 _ _ M.va h.res)
 have s12:=Xp (Xu wx g 0 M.va) (Xu (wx.setCell ⟨g,0,none⟩ M.va) g 1 M.vb)
 have kp:∀ b,b<wx.heap.size->b≠g->((wx.setCell ⟨g,0,none⟩ M.va).setCell ⟨g,1,none⟩ M.vb).heap[b]?=wx.heap[b]?:=λ b hb hne=>s12.block b hb (by simp;exact hne)
 refine⟨cell_of_row _ g 0 _ _ _ hr,cell_of_row _ g 1 _ _ _ hr,Xj ⟨M,Fs,rfl,?_,?_,?_,?_,?_,h.mkr.gok,h.mkr.gn,h.mkr.fok,h.mkr.fn1,h.mkr.fn2⟩⟩
 ·exact h.mkr.cod.keep λ k hk=>kp k (by have:=h.mkr.cod.lt;omega) (by omega)
 ·exact Yu (p:=⟨g,1,none⟩) (Yu (p:=⟨g,0,none⟩) h.gr (by show w.heap.size<=g;omega)) (by show w.heap.size<=g;omega)
 ·exact Gk (Yv h.mkr.gl (λ q hq=>kp q (h.mkr.gl.lt q hq).2 (by have:=(h.mkr.gl.lt q hq).1;omega))) (by omega)
 ·exact Gk (Yv h.mkr.fn (λ q hq=>kp q (h.mkr.fn.lt q hq).2 (by have:=(h.mkr.fn.lt q hq).1;omega))) (by omega)
 exact h.fns.keep (λ b hb hlt=>⟨kp b hlt (by have:=hb.1;omega),by have:=hb.1;omega⟩) s12.size
theorem Us (x y:Bt):st x++st y=st (x++y):=by apply ByteArray.ext;simp[ByteArray.data_append]
theorem Rn (gc:Nat) (w:World) (h:Cod w gc):Calls Tryz.prog 11 #[.pointer (some ⟨gc,0,none⟩)] w (Nv gc w):=by
 have hl:=h.lt
 have HCD:=Xj h
 obtain⟨i0,HI⟩:=Kf Tryz.infoGlob
 obtain⟨i1,HI1⟩:=Kf Tryz.infoStr
 obtain⟨i2,HI2⟩:=Kf Tryz.infoFunc
 obtain⟨i3,HI3⟩:=Kf Tryz.infoStmt
 have HST:∀ W,W=(w.alloc zso).alloc (Wk gc (.slice none 0 0))->Xq (Kt w W gc (w.heap.size+1) w.heap.size (.slice none 0 0) []):=λ W hW=>by
  subst hW
  have h1:=Xw w zso
  have h2:=Xw (w.alloc zso) (Wk gc (.slice none 0 0))
  exact Xj ⟨rfl,rfl,hl,(h2.block w.heap.size (by simp)).trans (heap_alloc_new w _),(h.below h1 hl).below h2 (by simp;omega),by
   have:=heap_alloc_new (w.alloc zso) (Wk gc (.slice none 0 0))
   simpa using this,World.ownsRow_nil _ _ _ _,by simp,Xp (Xm h1 _) (Xm h2 _)⟩
 clear h
 go_enter Tryz.func11,Tryz.ntmps11
 go_upto_region 2 with fail
 obtain⟨w1,hw1⟩:∃ W,(w.alloc zso).alloc (Wk gc (.slice none 0 0))=W:=⟨_,rfl⟩
 have HX:=HST w1 hw1.symm
 rw[hw1]
 obtain⟨gm,hgm⟩:∃ x,w.heap.size+1=x:=⟨_,rfl⟩
 obtain⟨g,hg⟩:∃ x,w.heap.size=x:=⟨_,rfl⟩
 rw[hgm,hg] at HX
 (try rw[hgm])
 (try rw[hg])
 clear HST hw1 hgm hg
 go_wp2_with fail
 refine(Yj gc 3 (by omega) _ HX.o.cod).mono ?_
 rintro e w2 ⟨k0,rfl,x0,x1,hH,hg⟩
 have HX2:=Xj (HX.o.grown hg hH)
 have x2:k0<3:=by omega
 clear hH hg HX x1
 clear w1
 obtain⟨k0,rfl⟩:=Int.eq_ofNat_of_zero_le x0
 clear x0
 go_upto_block 0 with fail
 go_wp2_with fail
 go_loopw [4] (λ v4 wr=>∃ (k:Nat) (va:Value) (gs:List (Bt×Int)),v4=.int .i64 k/\Xq (gs.length+k<=2/\Kt w wr gc gm g va gs)) (λ v4 _=>(intOf v4).toNat)
 case atStart=>exact⟨k0,.slice none 0 0,[],rfl,Xj ⟨by simp;omega,HX2.o⟩⟩
 clear HX2
 obtain⟨k,va,gs,rfl,HR⟩:=hrel
 by_cases hk0:k=0
 ·subst hk0
  have HX:=Xj HR.o.2
  have HN:=Xj HR.o.1
  clear HR
  go_wp2_with fail
  refine(Yj gc 3 (by omega) _ HX.o.cod).mono ?_
  rintro e w3 ⟨k1,rfl,x0,x1,hH,hg⟩
  have HX3:=Xj (HX.o.grown hg hH)
  have x3:k1<3:=by omega
  clear hH hg HX x1
  clear wr
  obtain⟨k1,rfl⟩:=Int.eq_ofNat_of_zero_le x0
  clear x0
  go_upto_block 2 with fail
  go_wp2_with fail
  go_loopw [5] (λ v5 wr=>∃ (k:Nat) (va:Value) (gs:List (Bt×Int)),v5=.int .i64 k/\Xq (gs.length+k<=4/\Kt w wr gc gm g va gs)) (λ v5 _=>(intOf v5).toNat)
  case atStart=>exact⟨k1,va,gs,rfl,Xj ⟨by have:=HN.o;omega,HX3.o⟩⟩
  clear HX3 HN
  clear va gs
  obtain⟨k,va,gs,rfl,HR⟩:=hrel
  by_cases hk0:k=0
  ·subst hk0
   have HX:=Xj HR.o.2
   have HN:=Xj HR.o.1
   clear HR
   have hjz:=HX.o.row
   have c2:=cell_of_row _ _ 2 _ _ _ hjz
   have f2:=frozen_of_row _ gm 2 _ _ hjz
   have jl:=Xv hjz
   have hxt:=HX.o.main HN.o
   rw[World.setCell_alloc_past _ gm 2 _ jl] at hxt
   have HMN:=Xj hxt
   clear hxt hjz
   go_upto_region 11 with fail
   obtain⟨wF,hwF⟩:∃ W,(wr.setCell ⟨gm,2,none⟩ (.slice (some ⟨wr.heap.size,0,none⟩) 1 1)).alloc (.cells #[.string (st [109,97,105,110]),.int .i64 0,.slice none 0 0,.slice none 0 0] 63)=W:=⟨_,rfl⟩
   rw[hwF] at HMN
   (try rw[show ((wr.setCell ⟨gm,2,none⟩ (.slice (some ⟨wr.heap.size,0,none⟩) 1 1)).alloc (.cells #[.string { data := #[109,97,105,110] },.int .i64 0,.slice none 0 0,.slice none 0 0] 63))=wF from hwF])
   (try rw[hwF])
   obtain⟨M0,hM0⟩:∃ M0:Mk,(⟨va,.slice (some ⟨wr.heap.size,0,none⟩) 1 1,.slice none 0 0,gs,[⟨[109,97,105,110],none,0,0,none,0,0⟩],[],0⟩:Mk)=M0:=⟨_,rfl⟩
   have HM0:Xq (M0.fs.length=1/\M0.vl=.slice none 0 0/\M0.ls=[]/\M0.bud=0):=Xj (by subst hM0;exact⟨rfl,rfl,rfl,rfl⟩)
   rw[hM0] at HMN
   clear hM0 hwF c2 f2 jl HX HN
   obtain⟨gq,hgq⟩:∃ x,wr.heap.size=x:=⟨_,rfl⟩
   (try rw[hgq])
   clear hgq
   clear wr
   go_wp2_with fail
   refine(Yj gc 4 (by omega) _ HMN.o.mkr.cod).mono ?_
   rintro e w4 ⟨k2,rfl,x0,x1,hH,hg⟩
   have HX4:=Xj (HMN.o.grown hg hH)
   have x4:k2<4:=by omega
   clear hH hg HMN x1
   clear wF
   obtain⟨k2,rfl⟩:=Int.eq_ofNat_of_zero_le x0
   clear x0
   go_upto_block 4 with fail
   go_wp2_with fail
   go_loopw [6] (λ v6 wr=>∃ (k:Nat) (M:Mk) (Fs:List Fn),v6=.int .i64 k/\Xq (M.fs.length+k<=4/\M.vl=.slice none 0 0/\M.ls=[]/\M.bud=0/\Jz w wr gc gm g M Fs)) (λ v6 _=>(intOf v6).toNat)
   case atStart=>exact⟨k2,M0,_,rfl,Xj ⟨by have:=HM0.o.1;omega,HM0.o.2.1,HM0.o.2.2.1,HM0.o.2.2.2,HX4.o⟩⟩
   clear HX4 HM0
   clear va gs M0
   obtain⟨k,M,Fs,rfl,HR⟩:=hrel
   by_cases hk0:k=0
   ·subst hk0
    have HX:=Xj HR.o.2.2.2.2
    have HM1:=Xj (And.intro HR.o.2.2.2.2.mkr.fn1 HR.o.2.2.2.2.mkr.fn2)
    clear HR
    (try rw[show ((0:Nat):Int)=0 from rfl])
    go_upto_block 8 with fail
    go_wp2_with fail
    obtain⟨n,hn⟩:∃ n,M.fs.length=n:=⟨_,rfl⟩
    rw[hn] at HM1
    go_loopw [9] (λ v9 wr=>∃ (i:Nat) (M:Mk) (Fs:List Fn),v9=.int .i64 i/\i<=n/\Xq (M.fs.length=n/\Jz w wr gc gm g M Fs)) (λ v9 _=>n-(intOf v9).toNat)
    case atStart=>exact⟨0,M,Fs,rfl,by omega,Xj ⟨hn,HX.o⟩⟩
    clear HX hn
    clear M Fs
    obtain⟨i,M,Fs,rfl,hi,HR⟩:=hrel
    have hzl:=HR.o.2
    have hjz:=hzl.mkr.row
    have hn4:=HM1.o.2
    obtain⟨bf,cf,hvb,hyf,hwc,hwh,hwl,hfr⟩:=Kb.of_own hzl.mkr.fn hzl.mkr.fn1
    rw[HR.o.1] at hvb hyf
    have HVB:=Xj hvb
    have HC2:Xq (∀ W:World,W.heap[gm]?=wr.heap[gm]?->W.cell? ⟨gm,2,none⟩=some (.slice (some ⟨bf,0,none⟩) n cf)):=Xj (λ W hW=>by rw[<- HVB.o];exact cell_of_row _ _ 2 _ _ _ (hW.trans hjz))
    have c2:=HC2.o wr rfl
    have HFR:=Xj hfr
    clear hvb hjz hzl hwh hwl hfr
    by_cases hlt:i<n
    ·obtain⟨f,hf⟩:∃ f,M.fs[i]?=some f:=⟨_,List.getElem?_eq_getElem (by rw[HR.o.1];exact hlt)⟩
     obtain⟨F,hF,hat⟩:=HR.o.2.fns.get hf
     have HF:=Xj (And.intro hf hF)
     have HAT:=Xj hat
     obtain⟨a1,a2,a3,a4,a5,a6,a7,a8,_⟩:=hat
     obtain⟨p0,p1,p2,p3⟩:=HFR.o i f hf
     have hpn:=(HR.o.2.mkr.fok f (List.mem_of_getElem? hf)).2
     have hpl:(Qw F.ps).length=f.pn*1:=by simp[Qw];exact a2.symm
     have HPL:=Xj hpl
     have HP5:=Xj a5
     have HCE:=Xj a6.cells
     have HOC:Xq (∀ u∈Qw F.ps,u.oneCell'=true):=Xj (by intro u hu;simp[Qw] at hu;obtain⟨x,_,rfl⟩:=hu;rfl)
     have HA2:=Xj a2
     have HA7:=Xj a7
     have hpm:f.pc<=9223372036854775807:=by have:=a4;unfold maxLen at this;omega
     clear hf hF a1 a2 a4 a5 a6 a7 a8 p0 p1 p3 hpl
     have jg:=Xv HR.o.2.mkr.row
     have HRW:=Xj HR.o.2.mkr.row
     go_upto_region 24 with(at_builtin;refine Ud rfl _ _ _ rfl wr.heap.size 9 i1 _ 1 16 Tryz.underlying42 HI1.o.1 HI1.o.2.1 HI1.o.2.2.1 HI1.o.2.2.2 rfl (by omega) _ 0 [] rfl (World.ownsRow_nil _ _ _ _) _ _ _ (Qw F.ps) rfl a3 HP5.o HPL.o HCE.o HOC.o (by unfold maxLen;omega) (by omega) (Nat.le_refl _) ?_;intro v' w9 hown9 hgrow9;obtain⟨a9,c9,rfl,_⟩:=Yd.of_own hown9;have hr9:=(hgrow9.block gm jg (show some gm≠(Value.slice none 0 0).ownBlock from λ e=>nomatch e)).trans HRW.o;have k3:=cell_of_row _ _ 3 _ _ _ hr9;have k3f:=frozen_of_row _ gm 3 _ _ hr9;have k3j:=Xv hr9;have k4:=cell_of_row _ _ 4 _ _ _ hr9;have k4f:=frozen_of_row _ gm 4 _ _ hr9;have HO9:=Xj hown9;have HG9:=Xj hgrow9;have HR9:=Xj hr9;clear hown9 hgrow9 hr9)
     have hqd:=HR.o.2.locals (v:=.slice a9 f.pn c9) (ps:=F.ps) HG9.o (by
      have:=HO9.o
      rw[Nat.zero_add,List.nil_append] at this
      rw[<- HA2.o]
      exact this) HA7.o (by rw[<- HA2.o];exact hpn)
     have HS:=Xj hqd
     clear hqd
     have HGB:Xq (gm<bf):=Xj (by
      have:=(HR.o.2.mkr.fn.lt bf (by rw[HVB.o];rfl)).1
      omega)
     go_upto_region 25 with fail
     obtain⟨wS,hwS⟩:∃ W,(w9.setCell ⟨gm,3,none⟩ (.slice a9 f.pn c9)).setCell ⟨gm,4,none⟩ (.int .i64 7)=W:=⟨_,rfl⟩
     rw[hwS] at HS ⊢
     have HC3:Xq (∀ W:World,W.heap[gm]?=wS.heap[gm]?->W.cell? ⟨gm,2,none⟩=some (.slice (some ⟨bf,0,none⟩) n cf)):=Xj (λ W hW=>by rw[<- HVB.o];exact cell_of_row _ _ 2 _ _ _ (hW.trans HS.o.mkr.row))
     clear hwS k3 k3f k3j k4 k4f c2 jg a3
     refine wp_region_held_drew (S:=(λ w'=>w'.cell? ⟨gm,2,none⟩=some (.slice (some ⟨bf,0,none⟩) n cf))) (by kernel_rfl) (HC3.o _ rfl) (λ hJ=>?_)
     refine tkH 0 143 ?_
     refine tkH 1 144 ?_
     refine tkH 2 145 ?_
     refine tkH 3 146 ?_
     refine tkH 4 147 ?_
     refine tkH 5 148 ?_
     refine tkH 6 149 ?_
     refine tkH 7 150 ?_
     refine rdH 8 λ K hK=>?_
     go_simp
     refine(Yj gc 4 (by omega) _ HS.o.mkr.cod.drew).mono ?_
     rintro e wT ⟨x,rfl,x0,x1,hH,hg0⟩
     have x4:x<4:=by omega
     have hg:=Xp (Xr wS 1 (some gc)) hg0
     have HT:=Xj (HS.o.grown hg hH)
     have HVT:Xq (wT.heap[gm]?=wS.heap[gm]?):=Xj (HT.o.mkr.row.trans HS.o.mkr.row.symm)
     refine goH hK (HC3.o _ HVT.o) λ hJ=>?_
     clear hK K hg0 hg hH x1
     have hwz:IntKind.i64.wrap (1+x)=1+x:=by unfold IntKind.wrap;simp[IntKind.signed,IntKind.bits];omega
     refine tkH 9 152 ?_
     have Ho:=(Af gc gm 2 (by omega)).2 _ wT (1+x) (by omega) (by omega) HT.o.mkr (show (0:Int)<=7 by omega) (by show ((F.ps.length:Nat):Int)+7<=9;have:=HA2.o;omega)
     have HCL:=Xj Ho
     clear Ho
     refine rdH 10 λ K hK=>?_
     go_simp
     refine HCL.o.mono ?_
     rintro e wU ⟨S,sl,xs,M3,rfl,hjj,hSf,hch,hmk,hb0,hb9,hw,hqj,hjc,hjr⟩
     have HU:=Xj (HT.o.step hch hmk)
     have hwj:M3.vb=.slice (some ⟨bf,0,none⟩) M3.fs.length cf:=by rw[hch.gb,hch.gf];show M.vb=.slice _ M.fs.length _;rw[HVB.o,HR.o.1]
     have HVU:Xq (wU.cell? ⟨gm,2,none⟩=some (.slice (some ⟨bf,0,none⟩) n cf)):=Xj (by
      have:=cell_of_row _ _ 2 _ _ _ hmk.row
      rw[this,hwj,hch.gf]
      show some (Value.slice _ M.fs.length _)=_
      rw[HR.o.1])
     have hqb:=Zl hjj hSf hmk
     have HST:Xq (Xf wU (PB gm M3) S sl):=Xj (hqb.keep (λ b hb _=>⟨rfl,by have:=hb.1;have:=Xv HT.o.mkr.row;omega,hb.2,λ e=>by
      have h1:=hb.1
      have h2:=(HT.o.mkr.fn.lt b (by show M.vb.ownBlock=some b;have:M3.vb=M.vb:=hch.gb;rw[<- this];exact e.symm)).2
      omega⟩) (Nat.le_refl _))
     obtain⟨asl,csl,_,rfl,-⟩:=hqb
     have hf3:M3.fs[i]?=some f:=by rw[hch.gf];exact HF.o.1
     have hcu:=hmk.fn
     have hcp:∃ cur,wU.heap[bf]?=some (.cells cur 63 (0,0)):=by
      rcases hcu.2 with⟨h1,_⟩|⟨gx,cap,cur,h1,_,hgx,_⟩
      ·rw[hwj] at h1;cases h1
      rw[hwj] at h1
      injection h1 with h1
      injection h1 with h1
      injection h1 with h1
      subst h1
      exact⟨cur,hgx⟩
     obtain⟨cur,hcg⟩:=hcp
     have jb:=Xv hcg
     have fb:=frozen_of_row _ bf (i*4+3) _ _ hcg
     have hcb:wU.cell? ⟨bf,i*4+3,none⟩=some (.slice f.ba f.bn f.bc):=by
      obtain⟨b',cap',e1,_,_,_,_,hfr⟩:=Kb.of_own hcu hmk.fn1
      rw[hwj] at e1
      injection e1 with e1
      injection e1 with e1
      injection e1 with e1
      subst e1
      exact(hfr i f hf3).2.2.2
     have HBD:=Xj (HU.o.body hwj hf3 HF.o.2 HST.o hw (by have:(S.cst:Int)<=1300*(7-M3.bud):=hqj;omega) hjc hjr)
     have HL3:Xq (M3.fs.length=n):=Xj (by rw[hch.gf];exact HR.o.1)
     refine goH hK HVU.o λ hJ=>?_
     clear hK K hjj hSf hch hmk hb0 hb9 hw hqj hjc hjr hwj hf3 hcu hcg
     have hi0:(0:Int)<=(i:Int):=by omega
     have hi1:(i:Int)<(n:Int):=by omega
     refine tkH 11 154 ?_
     refine tkH 12 155 ?_
     refine rdH 13 λ K hK=>?_
     go_simp
     refine goH hK ((World.cell?_of_block (heap_setCell_other wU ⟨bf,i*4+3,none⟩ gm _ (by have:=HGB.o;show gm≠bf;omega))).trans HVU.o) λ hJ=>?_
     clear hK K
     refine wpAnyH_done (by kernel_rfl) ?_ _
     go_wp2_with fail
     go_roundw
     case rel=>exact⟨i+1,{ M3 with fs:=M3.fs.set i { f with ba:=asl,bn:=S.len,bc:=csl } },Fs.set i { F with bd:=S },by go_num,by omega,Xj ⟨by show (M3.fs.set i _).length=n;rw[List.length_set];exact HL3.o,HBD.o⟩⟩
     simp[intOf];omega
    obtain rfl:i=n:=by omega
    have HF:=Xj HR.o.2
    have hva:∃ aa ca,M.va=.slice aa M.gs.length ca:=by
     obtain⟨aa,ca,e,_⟩:=Yd.of_own HR.o.2.mkr.gl
     exact⟨aa,ca,e⟩
    obtain⟨aa,ca,hva⟩:=hva
    have c1:=cell_of_row _ _ 1 _ _ _ HR.o.2.mkr.row
    have c1':wr.cell? ⟨gm,1,none⟩=some (.slice aa M.gs.length ca):=by rw[<- hva];exact c1
    have hZ:=HR.o.2.fin
    rw[hva,HVB.o] at hZ
    have r0:=cell_of_row _ _ 0 _ _ _ HR.o.2.res
    have r1:=cell_of_row _ _ 1 _ _ _ HR.o.2.res
    have f0:=frozen_of_row _ g 0 _ _ HR.o.2.res
    have f1:=frozen_of_row _ g 1 _ _ HR.o.2.res
    have jl:=Xv HR.o.2.res
    have HFN:=Xj hZ
    clear hZ hva c1 HR HF
    go_wp2_with fail
    obtain⟨q0,q1,HP⟩:=HFN.o _ rfl
    refine bodyPost_ret (v:=.agg #[.slice aa M.gs.length ca,.slice (some ⟨bf,0,none⟩) i cf]) (by simp[results,Tryz.results11,go_sem,q0,q1]) rfl ?_
    exact HP.o
   have hfl:M.fs.length<=3:=by have:=HR.o.1;omega
   have hkp:0<k:=by omega
   have HKP:=Xj hkp
   have hk3:k<=4:=by have:=HR.o.1;omega
   clear hk0
   have hzl:=HR.o.2.2.2.2
   have hjz:=hzl.mkr.row
   obtain⟨bf,cf,hvb,hyf,hwc,hwh,hwl,hfr⟩:=Kb.of_own hzl.mkr.fn hzl.mkr.fn1
   rw[hvb] at hjz
   have c2:=cell_of_row _ _ 2 _ _ _ hjz
   have HVB:=Xj hvb
   clear hfr hvb hjz hzl hwh hwl
   go_wp2_with fail
   refine(Zs M.fs.length (by omega) _).mono ?_
   rintro e wN ⟨rfl,hb⟩
   have HXN:=Xj (HR.o.2.2.2.2.below hb)
   have HLM:=Xj (And.intro HR.o.1 (And.intro HR.o.2.1 (And.intro HR.o.2.2.1 HR.o.2.2.2.1)))
   clear hb c2 HR
   clear wr
   have hst:=Us [102] (Lib.decDigits M.fs.length)
   have hdl:=Zg (n:=M.fs.length) (by omega)
   have HPS:=Xj (PSt.start (nm:=102::Lib.decDigits M.fs.length) HXN.o)
   go_upto_region 15 with fail
   obtain⟨wA,hwA⟩:∃ W,wN.alloc (Ab (102::Lib.decDigits M.fs.length) none 0 0)=W:=⟨_,rfl⟩
   obtain⟨g7,hg7⟩:∃ x,wN.heap.size=x:=⟨_,rfl⟩
   rw[hwA,hg7] at HPS
   (try rw[show wN.alloc (.cells #[.string (st (102::Lib.decDigits M.fs.length)),.int .i64 0,.slice none 0 0,.slice none 0 0] 63)=wA from hwA])
   (try rw[hg7])
   have HNM:Xq (okN (102::Lib.decDigits M.fs.length)):=Xj (Qu 102 (.inr (.inl rfl)) _ (by omega))
   obtain⟨nm,hnm⟩:∃ nm,102::Lib.decDigits M.fs.length=nm:=⟨_,rfl⟩
   rw[hnm] at HPS HNM
   (try rw[hnm])
   clear hwA hg7 HXN hst hdl hnm
   clear wN
   go_wp2_with fail
   refine(Yj gc 3 (by omega) _ HPS.o.src.mkr.cod).mono ?_
   rintro e wB ⟨n0,rfl,x0,x1,hH,hg⟩
   have HPB:=Xj (HPS.o.grown hg hH)
   have x3:n0<3:=by omega
   clear hH hg HPS x1
   clear wA
   obtain⟨n0,rfl⟩:=Int.eq_ofNat_of_zero_le x0
   clear x0
   go_upto_block 6 with fail
   go_wp2_with fail
   go_loopw [8] (λ v8 wr=>∃ (n:Nat) (ps:List Bt) (pa:Option Addr) (pc:Nat),v8=.int .i64 n/\Xq (ps.length+n<=2/\PSt w wr gc gm g M Fs g7 nm pa pc ps)) (λ v8 _=>(intOf v8).toNat)
   case atStart=>exact⟨n0,[],none,0,rfl,Xj ⟨by simp;omega,HPB.o⟩⟩
   clear HPB
   obtain⟨n,ps,pa,pc,rfl,HR⟩:=hrel
   by_cases hn0:n=0
   ·subst hn0
    go_upto_region 19 with fail
    have HRV:Xq (∀ W:World,W.heap[gm]?=wr.heap[gm]?->W.cell? ⟨gm,2,none⟩=some (.slice (some ⟨bf,0,none⟩) M.fs.length cf)):=Xj (λ W hW=>by rw[<- HVB.o];exact cell_of_row _ _ 2 _ _ _ (hW.trans HR.o.2.src.mkr.row))
    refine wp_region_held_drew (S:=(λ w'=>w'.heap[g7]?=some (Ab nm pa ps.length pc))) (by kernel_rfl) HR.o.2.row (λ hJ=>?_)
    refine tkH 0 105 ?_
    refine tkH 1 106 ?_
    refine tkH 2 107 ?_
    refine tkH 3 108 ?_
    refine tkH 4 109 ?_
    refine Xh (i:=6) (d:=some 111) (v:=(.agg #[.string (st nm),.int .i64 0,.slice pa ps.length pc,.slice none 0 0])) rfl (by kernel_rfl) (by kernel_rfl) (by kernel_rfl) (by kernel_rfl) (λ _ _ _ h=>h) (Or.inl ⟨by kernel_rfl,?_⟩) (by assumption) ?_
    ·(intro w hSw;obtain⟨p0,p1,p2,p3⟩:=Ex hSw;go_simp;try with_reducible rfl)
    refine Xz ?_
    have HX0:=Xj (HR.o.2.grown (Xr wr 1 (some gc)) HR.o.2.src.mkr.cod.drew)
    have HV0:Xq (wr.drew.heap[gm]?=wr.heap[gm]?):=Xj rfl
    obtain⟨w0,hw0⟩:∃ wx,wr.drew=wx:=⟨_,rfl⟩
    rw[show wr.drewN 1=w0 from hw0] at HX0
    rw[hw0] at HV0 hJ ⊢
    clear hw0
    refine wpAnyH_ready (rs:=[5,7]) (by kernel_rfl) (by simp) ?_
    refine AllReadyH.cons rfl (λ K hK=>?_) (AllReadyH.cons rfl (λ K hK=>?_) AllReadyH.nil)
    ·have c2:=HRV.o _ HV0.o
     go_simp
     refine goH hK HX0.o.row λ hJ=>?_
     clear hK K c2
     refine rdH 7 λ K hK=>?_
     go_simp
     have hb:=Xw w0 (.cells #[.string (st nm),.int .i64 0,.slice pa ps.length pc,.slice none 0 0] 63)
     have HNW:=Xj (heap_alloc_new w0 (.cells #[.string (st nm),.int .i64 0,.slice pa ps.length pc,.slice none 0 0] 63))
     have HX1:=Xj (HX0.o.below hb)
     have HV1:=Xj ((hb.block gm (Xv HX0.o.src.mkr.row)).trans HV0.o)
     refine goH hK HX1.o.row λ hJ=>?_
     clear hK K hb
     obtain⟨w1,hw⟩:∃ wx,w0.alloc (.cells #[.string (st nm),.int .i64 0,.slice pa ps.length pc,.slice none 0 0] 63)=wx:=⟨_,rfl⟩
     obtain⟨gb,hgb⟩:∃ gb,w0.heap.size=gb:=⟨_,rfl⟩
     rw[hw] at HNW HX1 HV1 hJ
     (try rw[hw])
     rw[hgb] at HNW
     (try rw[hgb])
     have HEQ:=Xj hw
     clear hw hgb
     have hvb:M.vb=.slice (some ⟨bf,0,none⟩) M.fs.length cf:=HVB.o
     have HOW:Xq (w1.ownsRow (gm+1) 63 4 (.slice (some ⟨bf,0,none⟩) M.fs.length cf) M.fs.length (frc M.fs)):=Xj (by rw[<- HVB.o];exact HX1.o.src.mkr.fn)
     have hsz:gm+1<=w1.heap.size:=Xv HX1.o.src.mkr.row
     clear hvb
     refine rdH 8 λ K hK=>?_
     refine step_append_lies _ (by rfl) _ _ _ (by rfl) (gm+1) 63 i2 _ 4 72 Tryz.underlying27 HI2.o.1 HI2.o.2.1 HI2.o.2.2.1 HI2.o.2.2.2 rfl (by omega) _ _ _ (by rfl) HOW.o ⟨gb,0,none⟩ 1 1 [.string (st nm),.int .i64 0,.slice pa ps.length pc,.slice none 0 0] (by rfl) (by rfl) (World.news_of_block (cs := #[.string (st nm),.int .i64 0,.slice pa ps.length pc,.slice none 0 0]) (t:=63) (fr:=(0,0)) HNW.o) (by simp[Value.oneCell']) (by omega) (by unfold maxLen;omega) (by omega) hsz _ rfl ?_
     intro g9 c9 wF hownF hgF horF hltF
     have hrF:=(hgF.block gm (Xv HX1.o.src.mkr.row) (λ e=>by have:=(HOW.o.lt gm e.symm).1;omega)).trans HX1.o.src.mkr.row
     have hr7:=(hgF.block g7 (Xv HX1.o.row) (λ e=>by have:=HX1.o.rows g7 (.inr (.inl (by rw[HVB.o];exact e.symm)));omega)).trans HX1.o.row
     have HPU:Xq (Jz w (wF.setCell ⟨gm,2,none⟩ (.slice (some ⟨g9,0,none⟩) (M.fs.length+1) c9)) gc gm g { M with vb:=.slice (some ⟨g9,0,none⟩) (M.fs.length+1) c9,fs:=M.fs++[⟨nm,pa,ps.length,pc,none,0,0⟩] } (Fs++[⟨nm,ps,.nil⟩])):=Xj (by
      rw[<- HEQ.o] at hgF horF
      have hx:=HX0.o.src.push (f:=⟨nm,pa,ps.length,pc,none,0,0⟩) (F:=⟨nm,ps,.nil⟩) HLM.o.2.1 ⟨HNM.o,by have:=HR.o.1;show ps.length<=2;omega⟩ (by omega) HX0.o.fn (by rw[HVB.o];exact hgF) (by rw[HVB.o];exact horF) hownF
      exact hx)
     refine goH hK hr7 λ hJ=>?_
     clear hK K hownF hgF horF hltF
     refine tkH 9 114 ?_
     refine tkH 10 115 ?_
     refine tkH 11 116 ?_
     have f2:=frozen_of_row _ gm 2 _ _ hrF
     have k2':=cell_of_row _ _ 2 _ _ _ hrF
     have jl:=Xv hrF
     refine rdH 12 λ K hK=>?_
     go_simp
     refine goH hK ((heap_setCell_other wF ⟨gm,2,none⟩ g7 _ (by have:=HX1.o.lt;show g7≠gm;omega)).trans hr7) λ hJ=>?_
     clear hK K
     refine wpAnyH_done (by kernel_rfl) ?_ _
     go_wp2_with fail
     go_roundw
     case rel=>exact⟨k-1,{ M with vb:=.slice (some ⟨g9,0,none⟩) (M.fs.length+1) c9,fs:=M.fs++[⟨nm,pa,ps.length,pc,none,0,0⟩] },Fs++[⟨nm,ps,.nil⟩],by go_num,Xj ⟨by show (M.fs++[_]).length+(k-1)<=4;have h0:=HKP.o;have h1:=HLM.o.1;simp;omega,HLM.o.2.1,HLM.o.2.2.1,HLM.o.2.2.2,HPU.o⟩⟩
     have h0:=HKP.o;simp[intOf];omega
    go_simp
    have hb:=Xw w0 (.cells #[.string (st nm),.int .i64 0,.slice pa ps.length pc,.slice none 0 0] 63)
    have HNW:=Xj (heap_alloc_new w0 (.cells #[.string (st nm),.int .i64 0,.slice pa ps.length pc,.slice none 0 0] 63))
    have HX1:=Xj (HX0.o.below hb)
    have HV1:=Xj ((hb.block gm (Xv HX0.o.src.mkr.row)).trans HV0.o)
    refine goH hK HX1.o.row λ hJ=>?_
    clear hK K hb
    obtain⟨w1,hw⟩:∃ wx,w0.alloc (.cells #[.string (st nm),.int .i64 0,.slice pa ps.length pc,.slice none 0 0] 63)=wx:=⟨_,rfl⟩
    obtain⟨gb,hgb⟩:∃ gb,w0.heap.size=gb:=⟨_,rfl⟩
    rw[hw] at HNW HX1 HV1 hJ
    (try rw[hw])
    rw[hgb] at HNW
    (try rw[hgb])
    have HEQ:=Xj hw
    clear hw hgb
    refine rdH 5 λ K hK=>?_
    have c2:=HRV.o _ HV1.o
    go_simp
    refine goH hK HX1.o.row λ hJ=>?_
    clear hK K c2
    have hvb:M.vb=.slice (some ⟨bf,0,none⟩) M.fs.length cf:=HVB.o
    have HOW:Xq (w1.ownsRow (gm+1) 63 4 (.slice (some ⟨bf,0,none⟩) M.fs.length cf) M.fs.length (frc M.fs)):=Xj (by rw[<- HVB.o];exact HX1.o.src.mkr.fn)
    have hsz:gm+1<=w1.heap.size:=Xv HX1.o.src.mkr.row
    clear hvb
    refine rdH 8 λ K hK=>?_
    refine step_append_lies _ (by rfl) _ _ _ (by rfl) (gm+1) 63 i2 _ 4 72 Tryz.underlying27 HI2.o.1 HI2.o.2.1 HI2.o.2.2.1 HI2.o.2.2.2 rfl (by omega) _ _ _ (by rfl) HOW.o ⟨gb,0,none⟩ 1 1 [.string (st nm),.int .i64 0,.slice pa ps.length pc,.slice none 0 0] (by rfl) (by rfl) (World.news_of_block (cs := #[.string (st nm),.int .i64 0,.slice pa ps.length pc,.slice none 0 0]) (t:=63) (fr:=(0,0)) HNW.o) (by simp[Value.oneCell']) (by omega) (by unfold maxLen;omega) (by omega) hsz _ rfl ?_
    intro g9 c9 wF hownF hgF horF hltF
    have hrF:=(hgF.block gm (Xv HX1.o.src.mkr.row) (λ e=>by have:=(HOW.o.lt gm e.symm).1;omega)).trans HX1.o.src.mkr.row
    have hr7:=(hgF.block g7 (Xv HX1.o.row) (λ e=>by have:=HX1.o.rows g7 (.inr (.inl (by rw[HVB.o];exact e.symm)));omega)).trans HX1.o.row
    have HPU:Xq (Jz w (wF.setCell ⟨gm,2,none⟩ (.slice (some ⟨g9,0,none⟩) (M.fs.length+1) c9)) gc gm g { M with vb:=.slice (some ⟨g9,0,none⟩) (M.fs.length+1) c9,fs:=M.fs++[⟨nm,pa,ps.length,pc,none,0,0⟩] } (Fs++[⟨nm,ps,.nil⟩])):=Xj (by
     rw[<- HEQ.o] at hgF horF
     have hx:=HX0.o.src.push (f:=⟨nm,pa,ps.length,pc,none,0,0⟩) (F:=⟨nm,ps,.nil⟩) HLM.o.2.1 ⟨HNM.o,by have:=HR.o.1;show ps.length<=2;omega⟩ (by omega) HX0.o.fn (by rw[HVB.o];exact hgF) (by rw[HVB.o];exact horF) hownF
     exact hx)
    refine goH hK hr7 λ hJ=>?_
    clear hK K hownF hgF horF hltF
    refine tkH 9 114 ?_
    refine tkH 10 115 ?_
    refine tkH 11 116 ?_
    have f2:=frozen_of_row _ gm 2 _ _ hrF
    have k2':=cell_of_row _ _ 2 _ _ _ hrF
    have jl:=Xv hrF
    refine rdH 12 λ K hK=>?_
    go_simp
    refine goH hK ((heap_setCell_other wF ⟨gm,2,none⟩ g7 _ (by have:=HX1.o.lt;show g7≠gm;omega)).trans hr7) λ hJ=>?_
    clear hK K
    refine wpAnyH_done (by kernel_rfl) ?_ _
    go_wp2_with fail
    go_roundw
    case rel=>exact⟨k-1,{ M with vb:=.slice (some ⟨g9,0,none⟩) (M.fs.length+1) c9,fs:=M.fs++[⟨nm,pa,ps.length,pc,none,0,0⟩] },Fs++[⟨nm,ps,.nil⟩],by go_num,Xj ⟨by show (M.fs++[_]).length+(k-1)<=4;have h0:=HKP.o;have h1:=HLM.o.1;simp;omega,HLM.o.2.1,HLM.o.2.2.1,HLM.o.2.2.2,HPU.o⟩⟩
    have h0:=HKP.o;simp[intOf];omega
   have hgl:ps.length<=1:=by have:=HR.o.1;omega
   have hnp:0<n:=by omega
   have HNP:=Xj hnp
   have hn3:n<=4:=by have:=HR.o.1;omega
   clear hn0
   go_upto_block 7 with fail
   go_cut [] from 95 to 104 (λ wx=>∃ (ps2:List Bt) (pa2:Option Addr) (pc2:Nat),Xq (ps2.length=ps.length+1/\PSt w wx gc gm g M Fs g7 nm pa2 pc2 ps2))
   case first =>
    go_upto_region 18 with fail
    refine wp_region_held_drew (S:=(λ _=>True)) (by kernel_rfl) trivial (λ hJ=>?_)
    refine tkH 0 95 ?_
    refine tkH 2 97 ?_
    have HX0:=Xj (HR.o.2.grown (Xr wr 1 (some gc)) HR.o.2.src.mkr.cod.drew)
    obtain⟨w0,hw0⟩:∃ wx,wr.drew=wx:=⟨_,rfl⟩
    rw[show wr.drewN 1=w0 from hw0] at HX0
    rw[hw0]
    clear hw0
    refine wpAnyH_ready (rs:=[1,3]) (by kernel_rfl) (by simp) ?_
    refine AllReadyH.cons rfl (λ K hK=>?_) (AllReadyH.cons rfl (λ K hK=>?_) AllReadyH.nil)
    ·have p2:=cell_of_row _ _ 2 _ _ _ HX0.o.row
     go_simp
     refine goH hK trivial λ hJ=>?_
     clear hK K p2
     refine rdH 3 λ K hK=>?_
     have p2:=cell_of_row _ _ 2 _ _ _ HX0.o.row
     go_simp
     refine goH hK trivial λ hJ=>?_
     clear hK K p2
     refine tkH 4 99 ?_
     refine rdH 5 λ K hK=>?_
     go_simp
     refine(Zs ps.length (by omega) _).mono ?_
     rintro e w1 ⟨rfl,hb⟩
     have HX1:=Xj (HX0.o.below hb)
     refine goH hK trivial λ hJ=>?_
     clear hK K hb
     refine Xh (i:=6) (d:=some 101) (v:=.string (st (112::Lib.decDigits ps.length))) rfl (by kernel_rfl) (by kernel_rfl) (by kernel_rfl) (by kernel_rfl) (λ _ _ _ h=>h) (Or.inl ⟨by kernel_rfl,?_⟩) (by assumption) ?_
     ·(intro w hSw;have hst:=Us [112] (Lib.decDigits ps.length);have hdl:=Zg (n:=ps.length) (by omega);go_simp;(try omega);try with_reducible rfl)
     refine Xz ?_
     refine rdH 7 λ K hK=>?_
     go_simp
     have hb:=Xw w1 (.cells #[.string (st (112::Lib.decDigits ps.length))] 9)
     have HNW:=Xj (heap_alloc_new w1 (.cells #[.string (st (112::Lib.decDigits ps.length))] 9))
     have HXK:=HX1
     have HX2:=Xj (HX1.o.below hb)
     refine goH hK trivial λ hJ=>?_
     clear hK K hb
     obtain⟨w2,hw⟩:∃ wx,w1.alloc (.cells #[.string (st (112::Lib.decDigits ps.length))] 9)=wx:=⟨_,rfl⟩
     obtain⟨gb,hgb⟩:∃ gb,w1.heap.size=gb:=⟨_,rfl⟩
     rw[hw] at HNW HX2
     (try rw[hw])
     rw[hgb] at HNW
     (try rw[hgb])
     have HEQ:=Xj hw
     have hsz:g7+1<=w2.heap.size:=Xv HX2.o.row
     clear hw hgb
     refine rdH 8 λ K hK=>?_
     refine step_append_lies _ (by rfl) _ _ _ (by rfl) (g7+1) 9 i1 _ 1 16 Tryz.underlying42 HI1.o.1 HI1.o.2.1 HI1.o.2.2.1 HI1.o.2.2.2 rfl (by omega) _ _ _ (by rfl) HX2.o.own ⟨gb,0,none⟩ 1 1 [.string (st (112::Lib.decDigits ps.length))] (by rfl) (by rfl) (World.news_of_block (cs := #[.string (st (112::Lib.decDigits ps.length))]) (t:=9) (fr:=(0,0)) HNW.o) (by simp[Value.oneCell']) (by omega) (by unfold maxLen;omega) (by omega) hsz _ rfl ?_
     intro g9 c9 wF hownF hgF _ hltF
     have hrF:=(hgF.block g7 (Xv HX2.o.row) (λ e=>by have:=(HX2.o.own.lt g7 e.symm).1;omega)).trans HX2.o.row
     rw[<- HEQ.o] at hgF
     have HPS:=Xj (HXK.o.push (Qu 112 (.inr (.inr rfl)) ps.length (by omega)) hgF hownF)
     refine goH hK trivial λ hJ=>?_
     clear hK K hownF hgF hltF
     refine tkH 9 104 ?_
     have f2:=frozen_of_row _ g7 2 _ _ hrF
     have k2':=cell_of_row _ _ 2 _ _ _ hrF
     have jl:=Xv hrF
     refine rdH 10 λ K hK=>?_
     go_simp
     refine goH hK trivial λ hJ=>?_
     clear hK K
     refine wpAnyH_done (by kernel_rfl) ?_ _
     go_wp2_with fail
     go_meet
     exact⟨_,_,_,Xj ⟨by simp,HPS.o⟩⟩
    have p2:=cell_of_row _ _ 2 _ _ _ HX0.o.row
    go_simp
    refine goH hK trivial λ hJ=>?_
    clear hK K p2
    refine tkH 4 99 ?_
    refine wpAnyH_ready (rs:=[1,5]) (by kernel_rfl) (by simp) ?_
    refine AllReadyH.cons rfl (λ K hK=>?_) (AllReadyH.cons rfl (λ K hK=>?_) AllReadyH.nil)
    ·have p2:=cell_of_row _ _ 2 _ _ _ HX0.o.row
     go_simp
     refine goH hK trivial λ hJ=>?_
     clear hK K p2
     refine rdH 5 λ K hK=>?_
     go_simp
     refine(Zs ps.length (by omega) _).mono ?_
     rintro e w3 ⟨rfl,hb⟩
     have HX3:=Xj (HX0.o.below hb)
     refine goH hK trivial λ hJ=>?_
     clear hK K hb
     refine Xh (i:=6) (d:=some 101) (v:=.string (st (112::Lib.decDigits ps.length))) rfl (by kernel_rfl) (by kernel_rfl) (by kernel_rfl) (by kernel_rfl) (λ _ _ _ h=>h) (Or.inl ⟨by kernel_rfl,?_⟩) (by assumption) ?_
     ·(intro w hSw;have hst:=Us [112] (Lib.decDigits ps.length);have hdl:=Zg (n:=ps.length) (by omega);go_simp;(try omega);try with_reducible rfl)
     refine Xz ?_
     refine rdH 7 λ K hK=>?_
     go_simp
     have hb:=Xw w3 (.cells #[.string (st (112::Lib.decDigits ps.length))] 9)
     have HNW:=Xj (heap_alloc_new w3 (.cells #[.string (st (112::Lib.decDigits ps.length))] 9))
     have HXK:=HX3
     have HX4:=Xj (HX3.o.below hb)
     refine goH hK trivial λ hJ=>?_
     clear hK K hb
     obtain⟨w4,hw⟩:∃ wx,w3.alloc (.cells #[.string (st (112::Lib.decDigits ps.length))] 9)=wx:=⟨_,rfl⟩
     obtain⟨gb,hgb⟩:∃ gb,w3.heap.size=gb:=⟨_,rfl⟩
     rw[hw] at HNW HX4
     (try rw[hw])
     rw[hgb] at HNW
     (try rw[hgb])
     have HEQ:=Xj hw
     have hsz:g7+1<=w4.heap.size:=Xv HX4.o.row
     clear hw hgb
     refine rdH 8 λ K hK=>?_
     refine step_append_lies _ (by rfl) _ _ _ (by rfl) (g7+1) 9 i1 _ 1 16 Tryz.underlying42 HI1.o.1 HI1.o.2.1 HI1.o.2.2.1 HI1.o.2.2.2 rfl (by omega) _ _ _ (by rfl) HX4.o.own ⟨gb,0,none⟩ 1 1 [.string (st (112::Lib.decDigits ps.length))] (by rfl) (by rfl) (World.news_of_block (cs := #[.string (st (112::Lib.decDigits ps.length))]) (t:=9) (fr:=(0,0)) HNW.o) (by simp[Value.oneCell']) (by omega) (by unfold maxLen;omega) (by omega) hsz _ rfl ?_
     intro g9 c9 wF hownF hgF _ hltF
     have hrF:=(hgF.block g7 (Xv HX4.o.row) (λ e=>by have:=(HX4.o.own.lt g7 e.symm).1;omega)).trans HX4.o.row
     rw[<- HEQ.o] at hgF
     have HPS:=Xj (HXK.o.push (Qu 112 (.inr (.inr rfl)) ps.length (by omega)) hgF hownF)
     refine goH hK trivial λ hJ=>?_
     clear hK K hownF hgF hltF
     refine tkH 9 104 ?_
     have f2:=frozen_of_row _ g7 2 _ _ hrF
     have k2':=cell_of_row _ _ 2 _ _ _ hrF
     have jl:=Xv hrF
     refine rdH 10 λ K hK=>?_
     go_simp
     refine goH hK trivial λ hJ=>?_
     clear hK K
     refine wpAnyH_done (by kernel_rfl) ?_ _
     go_wp2_with fail
     go_meet
     exact⟨_,_,_,Xj ⟨by simp,HPS.o⟩⟩
    go_simp
    refine(Zs ps.length (by omega) _).mono ?_
    rintro e w5 ⟨rfl,hb⟩
    have HX5:=Xj (HX0.o.below hb)
    refine goH hK trivial λ hJ=>?_
    clear hK K hb
    refine Xh (i:=6) (d:=some 101) (v:=.string (st (112::Lib.decDigits ps.length))) rfl (by kernel_rfl) (by kernel_rfl) (by kernel_rfl) (by kernel_rfl) (λ _ _ _ h=>h) (Or.inl ⟨by kernel_rfl,?_⟩) (by assumption) ?_
    ·(intro w hSw;have hst:=Us [112] (Lib.decDigits ps.length);have hdl:=Zg (n:=ps.length) (by omega);go_simp;(try omega);try with_reducible rfl)
    refine Xz ?_
    refine wpAnyH_ready (rs:=[1,7]) (by kernel_rfl) (by simp) ?_
    refine AllReadyH.cons rfl (λ K hK=>?_) (AllReadyH.cons rfl (λ K hK=>?_) AllReadyH.nil)
    ·have p2:=cell_of_row _ _ 2 _ _ _ HX5.o.row
     go_simp
     refine goH hK trivial λ hJ=>?_
     clear hK K p2
     refine rdH 7 λ K hK=>?_
     go_simp
     have hb:=Xw w5 (.cells #[.string (st (112::Lib.decDigits ps.length))] 9)
     have HNW:=Xj (heap_alloc_new w5 (.cells #[.string (st (112::Lib.decDigits ps.length))] 9))
     have HXK:=HX5
     have HX6:=Xj (HX5.o.below hb)
     refine goH hK trivial λ hJ=>?_
     clear hK K hb
     obtain⟨w6,hw⟩:∃ wx,w5.alloc (.cells #[.string (st (112::Lib.decDigits ps.length))] 9)=wx:=⟨_,rfl⟩
     obtain⟨gb,hgb⟩:∃ gb,w5.heap.size=gb:=⟨_,rfl⟩
     rw[hw] at HNW HX6
     (try rw[hw])
     rw[hgb] at HNW
     (try rw[hgb])
     have HEQ:=Xj hw
     have hsz:g7+1<=w6.heap.size:=Xv HX6.o.row
     clear hw hgb
     refine rdH 8 λ K hK=>?_
     refine step_append_lies _ (by rfl) _ _ _ (by rfl) (g7+1) 9 i1 _ 1 16 Tryz.underlying42 HI1.o.1 HI1.o.2.1 HI1.o.2.2.1 HI1.o.2.2.2 rfl (by omega) _ _ _ (by rfl) HX6.o.own ⟨gb,0,none⟩ 1 1 [.string (st (112::Lib.decDigits ps.length))] (by rfl) (by rfl) (World.news_of_block (cs := #[.string (st (112::Lib.decDigits ps.length))]) (t:=9) (fr:=(0,0)) HNW.o) (by simp[Value.oneCell']) (by omega) (by unfold maxLen;omega) (by omega) hsz _ rfl ?_
     intro g9 c9 wF hownF hgF _ hltF
     have hrF:=(hgF.block g7 (Xv HX6.o.row) (λ e=>by have:=(HX6.o.own.lt g7 e.symm).1;omega)).trans HX6.o.row
     rw[<- HEQ.o] at hgF
     have HPS:=Xj (HXK.o.push (Qu 112 (.inr (.inr rfl)) ps.length (by omega)) hgF hownF)
     refine goH hK trivial λ hJ=>?_
     clear hK K hownF hgF hltF
     refine tkH 9 104 ?_
     have f2:=frozen_of_row _ g7 2 _ _ hrF
     have k2':=cell_of_row _ _ 2 _ _ _ hrF
     have jl:=Xv hrF
     refine rdH 10 λ K hK=>?_
     go_simp
     refine goH hK trivial λ hJ=>?_
     clear hK K
     refine wpAnyH_done (by kernel_rfl) ?_ _
     go_wp2_with fail
     go_meet
     exact⟨_,_,_,Xj ⟨by simp,HPS.o⟩⟩
    go_simp
    have hb:=Xw w5 (.cells #[.string (st (112::Lib.decDigits ps.length))] 9)
    have HNW:=Xj (heap_alloc_new w5 (.cells #[.string (st (112::Lib.decDigits ps.length))] 9))
    have HXK:=HX5
    have HX7:=Xj (HX5.o.below hb)
    refine goH hK trivial λ hJ=>?_
    clear hK K hb
    obtain⟨w7,hw⟩:∃ wx,w5.alloc (.cells #[.string (st (112::Lib.decDigits ps.length))] 9)=wx:=⟨_,rfl⟩
    obtain⟨gb,hgb⟩:∃ gb,w5.heap.size=gb:=⟨_,rfl⟩
    rw[hw] at HNW HX7
    (try rw[hw])
    rw[hgb] at HNW
    (try rw[hgb])
    have HEQ:=Xj hw
    have hsz:g7+1<=w7.heap.size:=Xv HX7.o.row
    clear hw hgb
    refine rdH 1 λ K hK=>?_
    have p2:=cell_of_row _ _ 2 _ _ _ HX7.o.row
    go_simp
    refine goH hK trivial λ hJ=>?_
    clear hK K p2
    refine rdH 8 λ K hK=>?_
    refine step_append_lies _ (by rfl) _ _ _ (by rfl) (g7+1) 9 i1 _ 1 16 Tryz.underlying42 HI1.o.1 HI1.o.2.1 HI1.o.2.2.1 HI1.o.2.2.2 rfl (by omega) _ _ _ (by rfl) HX7.o.own ⟨gb,0,none⟩ 1 1 [.string (st (112::Lib.decDigits ps.length))] (by rfl) (by rfl) (World.news_of_block (cs := #[.string (st (112::Lib.decDigits ps.length))]) (t:=9) (fr:=(0,0)) HNW.o) (by simp[Value.oneCell']) (by omega) (by unfold maxLen;omega) (by omega) hsz _ rfl ?_
    intro g9 c9 wF hownF hgF _ hltF
    have hrF:=(hgF.block g7 (Xv HX7.o.row) (λ e=>by have:=(HX7.o.own.lt g7 e.symm).1;omega)).trans HX7.o.row
    rw[<- HEQ.o] at hgF
    have HPS:=Xj (HXK.o.push (Qu 112 (.inr (.inr rfl)) ps.length (by omega)) hgF hownF)
    refine goH hK trivial λ hJ=>?_
    clear hK K hownF hgF hltF
    refine tkH 9 104 ?_
    have f2:=frozen_of_row _ g7 2 _ _ hrF
    have k2':=cell_of_row _ _ 2 _ _ _ hrF
    have jl:=Xv hrF
    refine rdH 10 λ K hK=>?_
    go_simp
    refine goH hK trivial λ hJ=>?_
    clear hK K
    refine wpAnyH_done (by kernel_rfl) ?_ _
    go_wp2_with fail
    go_meet
    exact⟨_,_,_,Xj ⟨by simp,HPS.o⟩⟩
   obtain⟨ps2,pa2,pc2,HR2⟩:=hcut
   go_wp2_with fail
   go_roundw
   case rel=>exact⟨n-1,ps2,pa2,pc2,by go_num,Xj ⟨by have h0:=HNP.o;have h1:=HR.o.1;have h2:=HR2.o.1;omega,HR2.o.2⟩⟩
   have h0:=HNP.o;simp[intOf];omega
  have hgl:gs.length<=3:=by have:=HR.o.1;omega
  have hkp:0<k:=by omega
  have HKP:=Xj hkp
  have hk3:k<=4:=by have:=HR.o.1;omega
  clear hk0
  obtain⟨aa,ca,hva,_⟩:=Yd.of_own HR.o.2.gl
  subst hva
  go_upto_block 3 with fail
  go_cut [] from 45 to 67 (λ wx=>∃ (va2:Value) (gs2:List (Bt×Int)),Xq (gs2.length=gs.length+1/\Kt w wx gc gm g va2 gs2))
  case first =>
   go_upto_region 9 with fail
   refine wp_region_held_drew (S:=(λ _=>True)) (by kernel_rfl) trivial (λ hJ=>?_)
   refine tkH 0 45 ?_
   refine tkH 1 46 ?_
   refine tkH 2 47 ?_
   refine tkH 3 48 ?_
   refine tkH 4 49 ?_
   refine tkH 6 51 ?_
   refine tkH 7 52 ?_
   refine tkH 8 53 ?_
   refine tkH 9 54 ?_
   refine tkH 14 59 ?_
   have HX0:=Xj (HR.o.2.grown (Xr wr 1 (some gc)) HR.o.2.cod.drew)
   obtain⟨w0,hw0⟩:∃ wx,wr.drew=wx:=⟨_,rfl⟩
   rw[show wr.drewN 1=w0 from hw0] at HX0
   rw[hw0]
   clear hw0
   refine wpAnyH_ready (rs:=[5,10]) (by kernel_rfl) (by simp) ?_
   refine AllReadyH.cons rfl (λ K hK=>?_) (AllReadyH.cons rfl (λ K hK=>?_) AllReadyH.nil)
   ·have c1:=cell_of_row _ _ 1 _ _ _ HX0.o.row
    go_simp
    refine goH hK trivial λ hJ=>?_
    clear hK K c1
    refine rdH 10 λ K hK=>?_
    have c1:=cell_of_row _ _ 1 _ _ _ HX0.o.row
    go_simp
    refine goH hK trivial λ hJ=>?_
    clear hK K c1
    refine tkH 11 56 ?_
    refine rdH 12 λ K hK=>?_
    go_simp
    refine(Zs gs.length (by omega) _).mono ?_
    rintro e w8 ⟨rfl,hb⟩
    have HX8:=Xj (HX0.o.below hb)
    refine goH hK trivial λ hJ=>?_
    clear hK K hb
    refine Xh (i:=13) (d:=some 58) (v:=.string (st (103::Lib.decDigits gs.length))) rfl (by kernel_rfl) (by kernel_rfl) (by kernel_rfl) (by kernel_rfl) (λ _ _ _ h=>h) (Or.inl ⟨by kernel_rfl,?_⟩) (by assumption) ?_
    ·(intro w hSw;have hst:=Us [103] (Lib.decDigits gs.length);have hdl:=Zg (n:=gs.length) (by omega);go_simp;(try omega);try with_reducible rfl)
    refine Xz ?_
    refine rdH 15 λ K hK=>?_
    go_simp
    refine(Yj gc 5 (by omega) _ HX8.o.cod).mono ?_
    rintro e w9 ⟨x,rfl,x0,x1,hH,hg⟩
    have x2:x<5:=by omega
    have HX9:=Xj (HX8.o.grown hg hH)
    refine goH hK trivial λ hJ=>?_
    clear hK K hH hg x1
    have hwz:IntKind.i64.wrap (1+x)=1+x:=by unfold IntKind.wrap;simp[IntKind.signed,IntKind.bits];omega
    refine tkH 16 61 ?_
    refine tkH 17 62 ?_
    obtain⟨z,hz⟩:∃ z,1+x=z:=⟨_,rfl⟩
    (try rw[hz])
    have hz0:0<=z:=by omega
    have hz5:z<=5:=by omega
    clear hz hwz
    refine rdH 18 λ K hK=>?_
    go_simp
    have hb:=Xw w9 (.cells #[.string (st (103::Lib.decDigits gs.length)),.int .i64 z] 60)
    have HNW:=Xj (heap_alloc_new w9 (.cells #[.string (st (103::Lib.decDigits gs.length)),.int .i64 z] 60))
    have HOB:=Xj (Yv (HX9.o.gl) (λ q hq=>hb.block q (HX9.o.gl.lt q hq).2))
    have HXK:=HX9
    refine goH hK trivial λ hJ=>?_
    clear hK K hb
    obtain⟨w10,hw⟩:∃ wx,w9.alloc (.cells #[.string (st (103::Lib.decDigits gs.length)),.int .i64 z] 60)=wx:=⟨_,rfl⟩
    obtain⟨gb,hgb⟩:∃ gb,w9.heap.size=gb:=⟨_,rfl⟩
    rw[hw] at HNW HOB
    (try rw[hw])
    rw[hgb] at HNW
    (try rw[hgb])
    have HEQ:=Xj hw
    have hsz:gm+1<=w10.heap.size:=by have:=HXK.o.row;have:=Xv this;rw[<- hw];simp;omega
    have hkx:Xq (w10.heap[gm]?=some (Wk gc (.slice aa gs.length ca))):=Xj (by rw[<- hw];exact(Below.heap_alloc _ _ gm (Xv HXK.o.row)).trans HXK.o.row)
    clear hw hgb
    refine rdH 19 λ K hK=>?_
    refine step_append_lies _ (by rfl) _ _ _ (by rfl) (gm+1) 60 i0 _ 2 24 Tryz.underlying26 HI.o.1 HI.o.2.1 HI.o.2.2.1 HI.o.2.2.2 rfl (by omega) _ _ _ (by rfl) HOB.o ⟨gb,0,none⟩ 1 1 [.string (st (103::Lib.decDigits gs.length)),.int .i64 z] (by rfl) (by rfl) (World.news_of_block (cs := #[.string (st (103::Lib.decDigits gs.length)),.int .i64 z]) (t:=60) (fr:=(0,0)) HNW.o) (by simp[Value.oneCell']) (by omega) (by unfold maxLen;omega) (by omega) hsz _ rfl ?_
    intro g9 c9 wF hownF hgF _ hltF
    have hrF:=(hgF.block gm (Xv hkx.o) (λ e=>by have:=(HOB.o.lt gm e.symm).1;omega)).trans hkx.o
    rw[<- HEQ.o] at hgF
    have HPS:=Xj (HXK.o.push (Qu 103 (.inl rfl) gs.length (by omega)) hz0 hz5 hgF hownF)
    refine goH hK trivial λ hJ=>?_
    clear hK K hownF hgF hltF
    refine tkH 20 65 ?_
    refine tkH 21 66 ?_
    refine tkH 22 67 ?_
    have f1:=frozen_of_row _ gm 1 _ _ hrF
    have k1:=cell_of_row _ _ 1 _ _ _ hrF
    have jl:=Xv hrF
    refine rdH 23 λ K hK=>?_
    go_simp
    refine goH hK trivial λ hJ=>?_
    clear hK K
    refine wpAnyH_done (by kernel_rfl) ?_ _
    go_wp2_with fail
    go_meet
    exact⟨_,_,Xj ⟨by simp,HPS.o⟩⟩
   have c1:=cell_of_row _ _ 1 _ _ _ HX0.o.row
   go_simp
   refine goH hK trivial λ hJ=>?_
   clear hK K c1
   refine tkH 11 56 ?_
   refine wpAnyH_ready (rs:=[5,12]) (by kernel_rfl) (by simp) ?_
   refine AllReadyH.cons rfl (λ K hK=>?_) (AllReadyH.cons rfl (λ K hK=>?_) AllReadyH.nil)
   ·have c1:=cell_of_row _ _ 1 _ _ _ HX0.o.row
    go_simp
    refine goH hK trivial λ hJ=>?_
    clear hK K c1
    refine rdH 12 λ K hK=>?_
    go_simp
    refine(Zs gs.length (by omega) _).mono ?_
    rintro e w11 ⟨rfl,hb⟩
    have hxz:=Xj (HX0.o.below hb)
    refine goH hK trivial λ hJ=>?_
    clear hK K hb
    refine Xh (i:=13) (d:=some 58) (v:=.string (st (103::Lib.decDigits gs.length))) rfl (by kernel_rfl) (by kernel_rfl) (by kernel_rfl) (by kernel_rfl) (λ _ _ _ h=>h) (Or.inl ⟨by kernel_rfl,?_⟩) (by assumption) ?_
    ·(intro w hSw;have hst:=Us [103] (Lib.decDigits gs.length);have hdl:=Zg (n:=gs.length) (by omega);go_simp;(try omega);try with_reducible rfl)
    refine Xz ?_
    refine rdH 15 λ K hK=>?_
    go_simp
    refine(Yj gc 5 (by omega) _ hxz.o.cod).mono ?_
    rintro e w12 ⟨x,rfl,x0,x1,hH,hg⟩
    have x2:x<5:=by omega
    have hxy:=Xj (hxz.o.grown hg hH)
    refine goH hK trivial λ hJ=>?_
    clear hK K hH hg x1
    have hwz:IntKind.i64.wrap (1+x)=1+x:=by unfold IntKind.wrap;simp[IntKind.signed,IntKind.bits];omega
    refine tkH 16 61 ?_
    refine tkH 17 62 ?_
    obtain⟨z,hz⟩:∃ z,1+x=z:=⟨_,rfl⟩
    (try rw[hz])
    have hz0:0<=z:=by omega
    have hz5:z<=5:=by omega
    clear hz hwz
    refine rdH 18 λ K hK=>?_
    go_simp
    have hb:=Xw w12 (.cells #[.string (st (103::Lib.decDigits gs.length)),.int .i64 z] 60)
    have HNW:=Xj (heap_alloc_new w12 (.cells #[.string (st (103::Lib.decDigits gs.length)),.int .i64 z] 60))
    have HOB:=Xj (Yv (hxy.o.gl) (λ q hq=>hb.block q (hxy.o.gl.lt q hq).2))
    have HXK:=hxy
    refine goH hK trivial λ hJ=>?_
    clear hK K hb
    obtain⟨w13,hw⟩:∃ wx,w12.alloc (.cells #[.string (st (103::Lib.decDigits gs.length)),.int .i64 z] 60)=wx:=⟨_,rfl⟩
    obtain⟨gb,hgb⟩:∃ gb,w12.heap.size=gb:=⟨_,rfl⟩
    rw[hw] at HNW HOB
    (try rw[hw])
    rw[hgb] at HNW
    (try rw[hgb])
    have HEQ:=Xj hw
    have hsz:gm+1<=w13.heap.size:=by have:=HXK.o.row;have:=Xv this;rw[<- hw];simp;omega
    have hxu:Xq (w13.heap[gm]?=some (Wk gc (.slice aa gs.length ca))):=Xj (by rw[<- hw];exact(Below.heap_alloc _ _ gm (Xv HXK.o.row)).trans HXK.o.row)
    clear hw hgb
    refine rdH 19 λ K hK=>?_
    refine step_append_lies _ (by rfl) _ _ _ (by rfl) (gm+1) 60 i0 _ 2 24 Tryz.underlying26 HI.o.1 HI.o.2.1 HI.o.2.2.1 HI.o.2.2.2 rfl (by omega) _ _ _ (by rfl) HOB.o ⟨gb,0,none⟩ 1 1 [.string (st (103::Lib.decDigits gs.length)),.int .i64 z] (by rfl) (by rfl) (World.news_of_block (cs := #[.string (st (103::Lib.decDigits gs.length)),.int .i64 z]) (t:=60) (fr:=(0,0)) HNW.o) (by simp[Value.oneCell']) (by omega) (by unfold maxLen;omega) (by omega) hsz _ rfl ?_
    intro g9 c9 wF hownF hgF _ hltF
    have hrF:=(hgF.block gm (Xv hxu.o) (λ e=>by have:=(HOB.o.lt gm e.symm).1;omega)).trans hxu.o
    rw[<- HEQ.o] at hgF
    have HPS:=Xj (HXK.o.push (Qu 103 (.inl rfl) gs.length (by omega)) hz0 hz5 hgF hownF)
    refine goH hK trivial λ hJ=>?_
    clear hK K hownF hgF hltF
    refine tkH 20 65 ?_
    refine tkH 21 66 ?_
    refine tkH 22 67 ?_
    have f1:=frozen_of_row _ gm 1 _ _ hrF
    have k1:=cell_of_row _ _ 1 _ _ _ hrF
    have jl:=Xv hrF
    refine rdH 23 λ K hK=>?_
    go_simp
    refine goH hK trivial λ hJ=>?_
    clear hK K
    refine wpAnyH_done (by kernel_rfl) ?_ _
    go_wp2_with fail
    go_meet
    exact⟨_,_,Xj ⟨by simp,HPS.o⟩⟩
   go_simp
   refine(Zs gs.length (by omega) _).mono ?_
   rintro e w14 ⟨rfl,hb⟩
   have hxx:=Xj (HX0.o.below hb)
   refine goH hK trivial λ hJ=>?_
   clear hK K hb
   refine Xh (i:=13) (d:=some 58) (v:=.string (st (103::Lib.decDigits gs.length))) rfl (by kernel_rfl) (by kernel_rfl) (by kernel_rfl) (by kernel_rfl) (λ _ _ _ h=>h) (Or.inl ⟨by kernel_rfl,?_⟩) (by assumption) ?_
   ·(intro w hSw;have hst:=Us [103] (Lib.decDigits gs.length);have hdl:=Zg (n:=gs.length) (by omega);go_simp;(try omega);try with_reducible rfl)
   refine Xz ?_
   refine wpAnyH_ready (rs:=[5,15]) (by kernel_rfl) (by simp) ?_
   refine AllReadyH.cons rfl (λ K hK=>?_) (AllReadyH.cons rfl (λ K hK=>?_) AllReadyH.nil)
   ·have c1:=cell_of_row _ _ 1 _ _ _ hxx.o.row
    go_simp
    refine goH hK trivial λ hJ=>?_
    clear hK K c1
    refine rdH 15 λ K hK=>?_
    go_simp
    refine(Yj gc 5 (by omega) _ hxx.o.cod).mono ?_
    rintro e w15 ⟨x,rfl,x0,x1,hH,hg⟩
    have x2:x<5:=by omega
    have hxv:=Xj (hxx.o.grown hg hH)
    refine goH hK trivial λ hJ=>?_
    clear hK K hH hg x1
    have hwz:IntKind.i64.wrap (1+x)=1+x:=by unfold IntKind.wrap;simp[IntKind.signed,IntKind.bits];omega
    refine tkH 16 61 ?_
    refine tkH 17 62 ?_
    obtain⟨z,hz⟩:∃ z,1+x=z:=⟨_,rfl⟩
    (try rw[hz])
    have hz0:0<=z:=by omega
    have hz5:z<=5:=by omega
    clear hz hwz
    refine rdH 18 λ K hK=>?_
    go_simp
    have hb:=Xw w15 (.cells #[.string (st (103::Lib.decDigits gs.length)),.int .i64 z] 60)
    have HNW:=Xj (heap_alloc_new w15 (.cells #[.string (st (103::Lib.decDigits gs.length)),.int .i64 z] 60))
    have HOB:=Xj (Yv (hxv.o.gl) (λ q hq=>hb.block q (hxv.o.gl.lt q hq).2))
    have HXK:=hxv
    refine goH hK trivial λ hJ=>?_
    clear hK K hb
    obtain⟨w16,hw⟩:∃ wx,w15.alloc (.cells #[.string (st (103::Lib.decDigits gs.length)),.int .i64 z] 60)=wx:=⟨_,rfl⟩
    obtain⟨gb,hgb⟩:∃ gb,w15.heap.size=gb:=⟨_,rfl⟩
    rw[hw] at HNW HOB
    (try rw[hw])
    rw[hgb] at HNW
    (try rw[hgb])
    have HEQ:=Xj hw
    have hsz:gm+1<=w16.heap.size:=by have:=HXK.o.row;have:=Xv this;rw[<- hw];simp;omega
    have hxb:Xq (w16.heap[gm]?=some (Wk gc (.slice aa gs.length ca))):=Xj (by rw[<- hw];exact(Below.heap_alloc _ _ gm (Xv HXK.o.row)).trans HXK.o.row)
    clear hw hgb
    refine rdH 19 λ K hK=>?_
    refine step_append_lies _ (by rfl) _ _ _ (by rfl) (gm+1) 60 i0 _ 2 24 Tryz.underlying26 HI.o.1 HI.o.2.1 HI.o.2.2.1 HI.o.2.2.2 rfl (by omega) _ _ _ (by rfl) HOB.o ⟨gb,0,none⟩ 1 1 [.string (st (103::Lib.decDigits gs.length)),.int .i64 z] (by rfl) (by rfl) (World.news_of_block (cs := #[.string (st (103::Lib.decDigits gs.length)),.int .i64 z]) (t:=60) (fr:=(0,0)) HNW.o) (by simp[Value.oneCell']) (by omega) (by unfold maxLen;omega) (by omega) hsz _ rfl ?_
    intro g9 c9 wF hownF hgF _ hltF
    have hrF:=(hgF.block gm (Xv hxb.o) (λ e=>by have:=(HOB.o.lt gm e.symm).1;omega)).trans hxb.o
    rw[<- HEQ.o] at hgF
    have HPS:=Xj (HXK.o.push (Qu 103 (.inl rfl) gs.length (by omega)) hz0 hz5 hgF hownF)
    refine goH hK trivial λ hJ=>?_
    clear hK K hownF hgF hltF
    refine tkH 20 65 ?_
    refine tkH 21 66 ?_
    refine tkH 22 67 ?_
    have f1:=frozen_of_row _ gm 1 _ _ hrF
    have k1:=cell_of_row _ _ 1 _ _ _ hrF
    have jl:=Xv hrF
    refine rdH 23 λ K hK=>?_
    go_simp
    refine goH hK trivial λ hJ=>?_
    clear hK K
    refine wpAnyH_done (by kernel_rfl) ?_ _
    go_wp2_with fail
    go_meet
    exact⟨_,_,Xj ⟨by simp,HPS.o⟩⟩
   go_simp
   refine(Yj gc 5 (by omega) _ hxx.o.cod).mono ?_
   rintro e w17 ⟨x,rfl,x0,x1,hH,hg⟩
   have x2:x<5:=by omega
   have hzq:=Xj (hxx.o.grown hg hH)
   refine goH hK trivial λ hJ=>?_
   clear hK K hH hg x1
   have hwz:IntKind.i64.wrap (1+x)=1+x:=by unfold IntKind.wrap;simp[IntKind.signed,IntKind.bits];omega
   refine tkH 16 61 ?_
   refine tkH 17 62 ?_
   obtain⟨z,hz⟩:∃ z,1+x=z:=⟨_,rfl⟩
   (try rw[hz])
   have hz0:0<=z:=by omega
   have hz5:z<=5:=by omega
   clear hz hwz
   refine wpAnyH_ready (rs:=[5,18]) (by kernel_rfl) (by simp) ?_
   refine AllReadyH.cons rfl (λ K hK=>?_) (AllReadyH.cons rfl (λ K hK=>?_) AllReadyH.nil)
   ·have c1:=cell_of_row _ _ 1 _ _ _ hzq.o.row
    go_simp
    refine goH hK trivial λ hJ=>?_
    clear hK K c1
    refine rdH 18 λ K hK=>?_
    go_simp
    have hb:=Xw w17 (.cells #[.string (st (103::Lib.decDigits gs.length)),.int .i64 z] 60)
    have HNW:=Xj (heap_alloc_new w17 (.cells #[.string (st (103::Lib.decDigits gs.length)),.int .i64 z] 60))
    have HOB:=Xj (Yv (hzq.o.gl) (λ q hq=>hb.block q (hzq.o.gl.lt q hq).2))
    have HXK:=hzq
    refine goH hK trivial λ hJ=>?_
    clear hK K hb
    obtain⟨w18,hw⟩:∃ wx,w17.alloc (.cells #[.string (st (103::Lib.decDigits gs.length)),.int .i64 z] 60)=wx:=⟨_,rfl⟩
    obtain⟨gb,hgb⟩:∃ gb,w17.heap.size=gb:=⟨_,rfl⟩
    rw[hw] at HNW HOB
    (try rw[hw])
    rw[hgb] at HNW
    (try rw[hgb])
    have HEQ:=Xj hw
    have hsz:gm+1<=w18.heap.size:=by have:=HXK.o.row;have:=Xv this;rw[<- hw];simp;omega
    have hxp:Xq (w18.heap[gm]?=some (Wk gc (.slice aa gs.length ca))):=Xj (by rw[<- hw];exact(Below.heap_alloc _ _ gm (Xv HXK.o.row)).trans HXK.o.row)
    clear hw hgb
    refine rdH 19 λ K hK=>?_
    refine step_append_lies _ (by rfl) _ _ _ (by rfl) (gm+1) 60 i0 _ 2 24 Tryz.underlying26 HI.o.1 HI.o.2.1 HI.o.2.2.1 HI.o.2.2.2 rfl (by omega) _ _ _ (by rfl) HOB.o ⟨gb,0,none⟩ 1 1 [.string (st (103::Lib.decDigits gs.length)),.int .i64 z] (by rfl) (by rfl) (World.news_of_block (cs := #[.string (st (103::Lib.decDigits gs.length)),.int .i64 z]) (t:=60) (fr:=(0,0)) HNW.o) (by simp[Value.oneCell']) (by omega) (by unfold maxLen;omega) (by omega) hsz _ rfl ?_
    intro g9 c9 wF hownF hgF _ hltF
    have hrF:=(hgF.block gm (Xv hxp.o) (λ e=>by have:=(HOB.o.lt gm e.symm).1;omega)).trans hxp.o
    rw[<- HEQ.o] at hgF
    have HPS:=Xj (HXK.o.push (Qu 103 (.inl rfl) gs.length (by omega)) hz0 hz5 hgF hownF)
    refine goH hK trivial λ hJ=>?_
    clear hK K hownF hgF hltF
    refine tkH 20 65 ?_
    refine tkH 21 66 ?_
    refine tkH 22 67 ?_
    have f1:=frozen_of_row _ gm 1 _ _ hrF
    have k1:=cell_of_row _ _ 1 _ _ _ hrF
    have jl:=Xv hrF
    refine rdH 23 λ K hK=>?_
    go_simp
    refine goH hK trivial λ hJ=>?_
    clear hK K
    refine wpAnyH_done (by kernel_rfl) ?_ _
    go_wp2_with fail
    go_meet
    exact⟨_,_,Xj ⟨by simp,HPS.o⟩⟩
   go_simp
   have hb:=Xw w17 (.cells #[.string (st (103::Lib.decDigits gs.length)),.int .i64 z] 60)
   have HNW:=Xj (heap_alloc_new w17 (.cells #[.string (st (103::Lib.decDigits gs.length)),.int .i64 z] 60))
   have HOB:=Xj (Yv (hzq.o.gl) (λ q hq=>hb.block q (hzq.o.gl.lt q hq).2))
   have HXK:=hzq
   refine goH hK trivial λ hJ=>?_
   clear hK K hb
   obtain⟨w19,hw⟩:∃ wx,w17.alloc (.cells #[.string (st (103::Lib.decDigits gs.length)),.int .i64 z] 60)=wx:=⟨_,rfl⟩
   obtain⟨gb,hgb⟩:∃ gb,w17.heap.size=gb:=⟨_,rfl⟩
   rw[hw] at HNW HOB
   (try rw[hw])
   rw[hgb] at HNW
   (try rw[hgb])
   have HEQ:=Xj hw
   have hsz:gm+1<=w19.heap.size:=by have:=HXK.o.row;have:=Xv this;rw[<- hw];simp;omega
   have hvm:Xq (w19.heap[gm]?=some (Wk gc (.slice aa gs.length ca))):=Xj (by rw[<- hw];exact(Below.heap_alloc _ _ gm (Xv HXK.o.row)).trans HXK.o.row)
   clear hw hgb
   refine rdH 5 λ K hK=>?_
   have c1:=cell_of_row _ _ 1 _ _ _ hvm.o
   go_simp
   refine goH hK trivial λ hJ=>?_
   clear hK K c1
   refine rdH 19 λ K hK=>?_
   refine step_append_lies _ (by rfl) _ _ _ (by rfl) (gm+1) 60 i0 _ 2 24 Tryz.underlying26 HI.o.1 HI.o.2.1 HI.o.2.2.1 HI.o.2.2.2 rfl (by omega) _ _ _ (by rfl) HOB.o ⟨gb,0,none⟩ 1 1 [.string (st (103::Lib.decDigits gs.length)),.int .i64 z] (by rfl) (by rfl) (World.news_of_block (cs := #[.string (st (103::Lib.decDigits gs.length)),.int .i64 z]) (t:=60) (fr:=(0,0)) HNW.o) (by simp[Value.oneCell']) (by omega) (by unfold maxLen;omega) (by omega) hsz _ rfl ?_
   intro g9 c9 wF hownF hgF _ hltF
   have hrF:=(hgF.block gm (Xv hvm.o) (λ e=>by have:=(HOB.o.lt gm e.symm).1;omega)).trans hvm.o
   rw[<- HEQ.o] at hgF
   have HPS:=Xj (HXK.o.push (Qu 103 (.inl rfl) gs.length (by omega)) hz0 hz5 hgF hownF)
   refine goH hK trivial λ hJ=>?_
   clear hK K hownF hgF hltF
   refine tkH 20 65 ?_
   refine tkH 21 66 ?_
   refine tkH 22 67 ?_
   have f1:=frozen_of_row _ gm 1 _ _ hrF
   have k1:=cell_of_row _ _ 1 _ _ _ hrF
   have jl:=Xv hrF
   refine rdH 23 λ K hK=>?_
   go_simp
   refine goH hK trivial λ hJ=>?_
   clear hK K
   refine wpAnyH_done (by kernel_rfl) ?_ _
   go_wp2_with fail
   go_meet
   exact⟨_,_,Xj ⟨by simp,HPS.o⟩⟩
  obtain⟨va2,gs2,HR2⟩:=hcut
  go_wp2_with fail
  go_roundw
  case rel=>exact⟨k-1,va2,gs2,by go_num,Xj ⟨by have h0:=HKP.o;have h1:=HR.o.1;have h2:=HR2.o.1;omega,HR2.o.2⟩⟩
  have h0:=HKP.o;simp[intOf];omega
 have hgl:gs.length<=1:=by have:=HR.o.1;omega
 have hkp:0<k:=by omega
 have HKP:=Xj hkp
 have hk3:k<=3:=by have:=HR.o.1;omega
 clear hk0
 obtain⟨aa,ca,hva,_⟩:=Yd.of_own HR.o.2.gl
 subst hva
 go_upto_block 1 with fail
 go_cut [] from 19 to 38 (λ wx=>∃ (va2:Value) (gs2:List (Bt×Int)),Xq (gs2.length=gs.length+1/\Kt w wx gc gm g va2 gs2))
 case first =>
  go_upto_region 5 with fail
  refine wp_region_held_drew (S:=(λ _=>True)) (by kernel_rfl) trivial (λ hJ=>?_)
  refine tkH 0 19 ?_
  refine tkH 1 20 ?_
  refine tkH 2 21 ?_
  refine tkH 3 22 ?_
  refine tkH 4 23 ?_
  refine tkH 6 25 ?_
  refine tkH 7 26 ?_
  refine tkH 8 27 ?_
  refine tkH 9 28 ?_
  have HX0:=Xj (HR.o.2.grown (Xr wr 1 (some gc)) HR.o.2.cod.drew)
  obtain⟨w0,hw0⟩:∃ wx,wr.drew=wx:=⟨_,rfl⟩
  rw[show wr.drewN 1=w0 from hw0] at HX0
  rw[hw0]
  clear hw0
  refine wpAnyH_ready (rs:=[5,10]) (by kernel_rfl) (by simp) ?_
  refine AllReadyH.cons rfl (λ K hK=>?_) (AllReadyH.cons rfl (λ K hK=>?_) AllReadyH.nil)
  ·have c1:=cell_of_row _ _ 1 _ _ _ HX0.o.row
   go_simp
   refine goH hK trivial λ hJ=>?_
   clear hK K c1
   refine rdH 10 λ K hK=>?_
   have c1:=cell_of_row _ _ 1 _ _ _ HX0.o.row
   go_simp
   refine goH hK trivial λ hJ=>?_
   clear hK K c1
   refine tkH 11 30 ?_
   refine rdH 12 λ K hK=>?_
   go_simp
   refine(Zs gs.length (by omega) _).mono ?_
   rintro e w20 ⟨rfl,hb⟩
   have hvc:=Xj (HX0.o.below hb)
   refine goH hK trivial λ hJ=>?_
   clear hK K hb
   refine Xh (i:=13) (d:=some 32) (v:=.string (st (103::Lib.decDigits gs.length))) rfl (by kernel_rfl) (by kernel_rfl) (by kernel_rfl) (by kernel_rfl) (λ _ _ _ h=>h) (Or.inl ⟨by kernel_rfl,?_⟩) (by assumption) ?_
   ·(intro w hSw;have hst:=Us [103] (Lib.decDigits gs.length);have hdl:=Zg (n:=gs.length) (by omega);go_simp;(try omega);try with_reducible rfl)
   refine Xz ?_
   refine Xh (i:=14) (d:=some 33) (v:=.agg #[.string (st (103::Lib.decDigits gs.length)),.int .i64 0]) rfl (by kernel_rfl) (by kernel_rfl) (by kernel_rfl) (by kernel_rfl) (λ _ _ _ h=>h) (Or.inl ⟨by kernel_rfl,?_⟩) (by assumption) ?_
   ·(intro w hSw;go_simp;try with_reducible rfl)
   refine Xz ?_
   have hz0:(0:Int)<=0:=by omega
   have hz5:(0:Int)<=5:=by omega
   refine rdH 15 λ K hK=>?_
   go_simp
   have hb:=Xw w20 (.cells #[.string (st (103::Lib.decDigits gs.length)),.int .i64 0] 60)
   have HNW:=Xj (heap_alloc_new w20 (.cells #[.string (st (103::Lib.decDigits gs.length)),.int .i64 0] 60))
   have HOB:=Xj (Yv (hvc.o.gl) (λ q hq=>hb.block q (hvc.o.gl.lt q hq).2))
   have HXK:=hvc
   refine goH hK trivial λ hJ=>?_
   clear hK K hb
   obtain⟨w21,hw⟩:∃ wx,w20.alloc (.cells #[.string (st (103::Lib.decDigits gs.length)),.int .i64 0] 60)=wx:=⟨_,rfl⟩
   obtain⟨gb,hgb⟩:∃ gb,w20.heap.size=gb:=⟨_,rfl⟩
   rw[hw] at HNW HOB
   (try rw[hw])
   rw[hgb] at HNW
   (try rw[hgb])
   have HEQ:=Xj hw
   have hsz:gm+1<=w21.heap.size:=by have:=HXK.o.row;have:=Xv this;rw[<- hw];simp;omega
   have huq:Xq (w21.heap[gm]?=some (Wk gc (.slice aa gs.length ca))):=Xj (by rw[<- hw];exact(Below.heap_alloc _ _ gm (Xv HXK.o.row)).trans HXK.o.row)
   clear hw hgb
   refine rdH 16 λ K hK=>?_
   refine step_append_lies _ (by rfl) _ _ _ (by rfl) (gm+1) 60 i0 _ 2 24 Tryz.underlying26 HI.o.1 HI.o.2.1 HI.o.2.2.1 HI.o.2.2.2 rfl (by omega) _ _ _ (by rfl) HOB.o ⟨gb,0,none⟩ 1 1 [.string (st (103::Lib.decDigits gs.length)),.int .i64 0] (by rfl) (by rfl) (World.news_of_block (cs := #[.string (st (103::Lib.decDigits gs.length)),.int .i64 0]) (t:=60) (fr:=(0,0)) HNW.o) (by simp[Value.oneCell']) (by omega) (by unfold maxLen;omega) (by omega) hsz _ rfl ?_
   intro g9 c9 wF hownF hgF _ hltF
   have hrF:=(hgF.block gm (Xv huq.o) (λ e=>by have:=(HOB.o.lt gm e.symm).1;omega)).trans huq.o
   rw[<- HEQ.o] at hgF
   have HPS:=Xj (HXK.o.push (Qu 103 (.inl rfl) gs.length (by omega)) hz0 hz5 hgF hownF)
   refine goH hK trivial λ hJ=>?_
   clear hK K hownF hgF hltF
   refine tkH 17 36 ?_
   refine tkH 18 37 ?_
   refine tkH 19 38 ?_
   have f1:=frozen_of_row _ gm 1 _ _ hrF
   have k1:=cell_of_row _ _ 1 _ _ _ hrF
   have jl:=Xv hrF
   refine rdH 20 λ K hK=>?_
   go_simp
   refine goH hK trivial λ hJ=>?_
   clear hK K
   refine wpAnyH_done (by kernel_rfl) ?_ _
   go_wp2_with fail
   go_meet
   exact⟨_,_,Xj ⟨by simp,HPS.o⟩⟩
  have c1:=cell_of_row _ _ 1 _ _ _ HX0.o.row
  go_simp
  refine goH hK trivial λ hJ=>?_
  clear hK K c1
  refine tkH 11 30 ?_
  refine wpAnyH_ready (rs:=[5,12]) (by kernel_rfl) (by simp) ?_
  refine AllReadyH.cons rfl (λ K hK=>?_) (AllReadyH.cons rfl (λ K hK=>?_) AllReadyH.nil)
  ·have c1:=cell_of_row _ _ 1 _ _ _ HX0.o.row
   go_simp
   refine goH hK trivial λ hJ=>?_
   clear hK K c1
   refine rdH 12 λ K hK=>?_
   go_simp
   refine(Zs gs.length (by omega) _).mono ?_
   rintro e w22 ⟨rfl,hb⟩
   have hvf:=Xj (HX0.o.below hb)
   refine goH hK trivial λ hJ=>?_
   clear hK K hb
   refine Xh (i:=13) (d:=some 32) (v:=.string (st (103::Lib.decDigits gs.length))) rfl (by kernel_rfl) (by kernel_rfl) (by kernel_rfl) (by kernel_rfl) (λ _ _ _ h=>h) (Or.inl ⟨by kernel_rfl,?_⟩) (by assumption) ?_
   ·(intro w hSw;have hst:=Us [103] (Lib.decDigits gs.length);have hdl:=Zg (n:=gs.length) (by omega);go_simp;(try omega);try with_reducible rfl)
   refine Xz ?_
   refine Xh (i:=14) (d:=some 33) (v:=.agg #[.string (st (103::Lib.decDigits gs.length)),.int .i64 0]) rfl (by kernel_rfl) (by kernel_rfl) (by kernel_rfl) (by kernel_rfl) (λ _ _ _ h=>h) (Or.inl ⟨by kernel_rfl,?_⟩) (by assumption) ?_
   ·(intro w hSw;go_simp;try with_reducible rfl)
   refine Xz ?_
   have hz0:(0:Int)<=0:=by omega
   have hz5:(0:Int)<=5:=by omega
   refine rdH 15 λ K hK=>?_
   go_simp
   have hb:=Xw w22 (.cells #[.string (st (103::Lib.decDigits gs.length)),.int .i64 0] 60)
   have HNW:=Xj (heap_alloc_new w22 (.cells #[.string (st (103::Lib.decDigits gs.length)),.int .i64 0] 60))
   have HOB:=Xj (Yv (hvf.o.gl) (λ q hq=>hb.block q (hvf.o.gl.lt q hq).2))
   have HXK:=hvf
   refine goH hK trivial λ hJ=>?_
   clear hK K hb
   obtain⟨w23,hw⟩:∃ wx,w22.alloc (.cells #[.string (st (103::Lib.decDigits gs.length)),.int .i64 0] 60)=wx:=⟨_,rfl⟩
   obtain⟨gb,hgb⟩:∃ gb,w22.heap.size=gb:=⟨_,rfl⟩
   rw[hw] at HNW HOB
   (try rw[hw])
   rw[hgb] at HNW
   (try rw[hgb])
   have HEQ:=Xj hw
   have hsz:gm+1<=w23.heap.size:=by have:=HXK.o.row;have:=Xv this;rw[<- hw];simp;omega
   have hkv:Xq (w23.heap[gm]?=some (Wk gc (.slice aa gs.length ca))):=Xj (by rw[<- hw];exact(Below.heap_alloc _ _ gm (Xv HXK.o.row)).trans HXK.o.row)
   clear hw hgb
   refine rdH 16 λ K hK=>?_
   refine step_append_lies _ (by rfl) _ _ _ (by rfl) (gm+1) 60 i0 _ 2 24 Tryz.underlying26 HI.o.1 HI.o.2.1 HI.o.2.2.1 HI.o.2.2.2 rfl (by omega) _ _ _ (by rfl) HOB.o ⟨gb,0,none⟩ 1 1 [.string (st (103::Lib.decDigits gs.length)),.int .i64 0] (by rfl) (by rfl) (World.news_of_block (cs := #[.string (st (103::Lib.decDigits gs.length)),.int .i64 0]) (t:=60) (fr:=(0,0)) HNW.o) (by simp[Value.oneCell']) (by omega) (by unfold maxLen;omega) (by omega) hsz _ rfl ?_
   intro g9 c9 wF hownF hgF _ hltF
   have hrF:=(hgF.block gm (Xv hkv.o) (λ e=>by have:=(HOB.o.lt gm e.symm).1;omega)).trans hkv.o
   rw[<- HEQ.o] at hgF
   have HPS:=Xj (HXK.o.push (Qu 103 (.inl rfl) gs.length (by omega)) hz0 hz5 hgF hownF)
   refine goH hK trivial λ hJ=>?_
   clear hK K hownF hgF hltF
   refine tkH 17 36 ?_
   refine tkH 18 37 ?_
   refine tkH 19 38 ?_
   have f1:=frozen_of_row _ gm 1 _ _ hrF
   have k1:=cell_of_row _ _ 1 _ _ _ hrF
   have jl:=Xv hrF
   refine rdH 20 λ K hK=>?_
   go_simp
   refine goH hK trivial λ hJ=>?_
   clear hK K
   refine wpAnyH_done (by kernel_rfl) ?_ _
   go_wp2_with fail
   go_meet
   exact⟨_,_,Xj ⟨by simp,HPS.o⟩⟩
  go_simp
  refine(Zs gs.length (by omega) _).mono ?_
  rintro e w24 ⟨rfl,hb⟩
  have hvj:=Xj (HX0.o.below hb)
  refine goH hK trivial λ hJ=>?_
  clear hK K hb
  refine Xh (i:=13) (d:=some 32) (v:=.string (st (103::Lib.decDigits gs.length))) rfl (by kernel_rfl) (by kernel_rfl) (by kernel_rfl) (by kernel_rfl) (λ _ _ _ h=>h) (Or.inl ⟨by kernel_rfl,?_⟩) (by assumption) ?_
  ·(intro w hSw;have hst:=Us [103] (Lib.decDigits gs.length);have hdl:=Zg (n:=gs.length) (by omega);go_simp;(try omega);try with_reducible rfl)
  refine Xz ?_
  refine Xh (i:=14) (d:=some 33) (v:=.agg #[.string (st (103::Lib.decDigits gs.length)),.int .i64 0]) rfl (by kernel_rfl) (by kernel_rfl) (by kernel_rfl) (by kernel_rfl) (λ _ _ _ h=>h) (Or.inl ⟨by kernel_rfl,?_⟩) (by assumption) ?_
  ·(intro w hSw;go_simp;try with_reducible rfl)
  refine Xz ?_
  have hz0:(0:Int)<=0:=by omega
  have hz5:(0:Int)<=5:=by omega
  refine wpAnyH_ready (rs:=[5,15]) (by kernel_rfl) (by simp) ?_
  refine AllReadyH.cons rfl (λ K hK=>?_) (AllReadyH.cons rfl (λ K hK=>?_) AllReadyH.nil)
  ·have c1:=cell_of_row _ _ 1 _ _ _ hvj.o.row
   go_simp
   refine goH hK trivial λ hJ=>?_
   clear hK K c1
   refine rdH 15 λ K hK=>?_
   go_simp
   have hb:=Xw w24 (.cells #[.string (st (103::Lib.decDigits gs.length)),.int .i64 0] 60)
   have HNW:=Xj (heap_alloc_new w24 (.cells #[.string (st (103::Lib.decDigits gs.length)),.int .i64 0] 60))
   have HOB:=Xj (Yv (hvj.o.gl) (λ q hq=>hb.block q (hvj.o.gl.lt q hq).2))
   have HXK:=hvj
   refine goH hK trivial λ hJ=>?_
   clear hK K hb
   obtain⟨w25,hw⟩:∃ wx,w24.alloc (.cells #[.string (st (103::Lib.decDigits gs.length)),.int .i64 0] 60)=wx:=⟨_,rfl⟩
   obtain⟨gb,hgb⟩:∃ gb,w24.heap.size=gb:=⟨_,rfl⟩
   rw[hw] at HNW HOB
   (try rw[hw])
   rw[hgb] at HNW
   (try rw[hgb])
   have HEQ:=Xj hw
   have hsz:gm+1<=w25.heap.size:=by have:=HXK.o.row;have:=Xv this;rw[<- hw];simp;omega
   have hvd:Xq (w25.heap[gm]?=some (Wk gc (.slice aa gs.length ca))):=Xj (by rw[<- hw];exact(Below.heap_alloc _ _ gm (Xv HXK.o.row)).trans HXK.o.row)
   clear hw hgb
   refine rdH 16 λ K hK=>?_
   refine step_append_lies _ (by rfl) _ _ _ (by rfl) (gm+1) 60 i0 _ 2 24 Tryz.underlying26 HI.o.1 HI.o.2.1 HI.o.2.2.1 HI.o.2.2.2 rfl (by omega) _ _ _ (by rfl) HOB.o ⟨gb,0,none⟩ 1 1 [.string (st (103::Lib.decDigits gs.length)),.int .i64 0] (by rfl) (by rfl) (World.news_of_block (cs := #[.string (st (103::Lib.decDigits gs.length)),.int .i64 0]) (t:=60) (fr:=(0,0)) HNW.o) (by simp[Value.oneCell']) (by omega) (by unfold maxLen;omega) (by omega) hsz _ rfl ?_
   intro g9 c9 wF hownF hgF _ hltF
   have hrF:=(hgF.block gm (Xv hvd.o) (λ e=>by have:=(HOB.o.lt gm e.symm).1;omega)).trans hvd.o
   rw[<- HEQ.o] at hgF
   have HPS:=Xj (HXK.o.push (Qu 103 (.inl rfl) gs.length (by omega)) hz0 hz5 hgF hownF)
   refine goH hK trivial λ hJ=>?_
   clear hK K hownF hgF hltF
   refine tkH 17 36 ?_
   refine tkH 18 37 ?_
   refine tkH 19 38 ?_
   have f1:=frozen_of_row _ gm 1 _ _ hrF
   have k1:=cell_of_row _ _ 1 _ _ _ hrF
   have jl:=Xv hrF
   refine rdH 20 λ K hK=>?_
   go_simp
   refine goH hK trivial λ hJ=>?_
   clear hK K
   refine wpAnyH_done (by kernel_rfl) ?_ _
   go_wp2_with fail
   go_meet
   exact⟨_,_,Xj ⟨by simp,HPS.o⟩⟩
  go_simp
  have hb:=Xw w24 (.cells #[.string (st (103::Lib.decDigits gs.length)),.int .i64 0] 60)
  have HNW:=Xj (heap_alloc_new w24 (.cells #[.string (st (103::Lib.decDigits gs.length)),.int .i64 0] 60))
  have HOB:=Xj (Yv (hvj.o.gl) (λ q hq=>hb.block q (hvj.o.gl.lt q hq).2))
  have HXK:=hvj
  refine goH hK trivial λ hJ=>?_
  clear hK K hb
  obtain⟨w26,hw⟩:∃ wx,w24.alloc (.cells #[.string (st (103::Lib.decDigits gs.length)),.int .i64 0] 60)=wx:=⟨_,rfl⟩
  obtain⟨gb,hgb⟩:∃ gb,w24.heap.size=gb:=⟨_,rfl⟩
  rw[hw] at HNW HOB
  (try rw[hw])
  rw[hgb] at HNW
  (try rw[hgb])
  have HEQ:=Xj hw
  have hsz:gm+1<=w26.heap.size:=by have:=HXK.o.row;have:=Xv this;rw[<- hw];simp;omega
  have hkf:Xq (w26.heap[gm]?=some (Wk gc (.slice aa gs.length ca))):=Xj (by rw[<- hw];exact(Below.heap_alloc _ _ gm (Xv HXK.o.row)).trans HXK.o.row)
  clear hw hgb
  refine rdH 5 λ K hK=>?_
  have c1:=cell_of_row _ _ 1 _ _ _ hkf.o
  go_simp
  refine goH hK trivial λ hJ=>?_
  clear hK K c1
  refine rdH 16 λ K hK=>?_
  refine step_append_lies _ (by rfl) _ _ _ (by rfl) (gm+1) 60 i0 _ 2 24 Tryz.underlying26 HI.o.1 HI.o.2.1 HI.o.2.2.1 HI.o.2.2.2 rfl (by omega) _ _ _ (by rfl) HOB.o ⟨gb,0,none⟩ 1 1 [.string (st (103::Lib.decDigits gs.length)),.int .i64 0] (by rfl) (by rfl) (World.news_of_block (cs := #[.string (st (103::Lib.decDigits gs.length)),.int .i64 0]) (t:=60) (fr:=(0,0)) HNW.o) (by simp[Value.oneCell']) (by omega) (by unfold maxLen;omega) (by omega) hsz _ rfl ?_
  intro g9 c9 wF hownF hgF _ hltF
  have hrF:=(hgF.block gm (Xv hkf.o) (λ e=>by have:=(HOB.o.lt gm e.symm).1;omega)).trans hkf.o
  rw[<- HEQ.o] at hgF
  have HPS:=Xj (HXK.o.push (Qu 103 (.inl rfl) gs.length (by omega)) hz0 hz5 hgF hownF)
  refine goH hK trivial λ hJ=>?_
  clear hK K hownF hgF hltF
  refine tkH 17 36 ?_
  refine tkH 18 37 ?_
  refine tkH 19 38 ?_
  have f1:=frozen_of_row _ gm 1 _ _ hrF
  have k1:=cell_of_row _ _ 1 _ _ _ hrF
  have jl:=Xv hrF
  refine rdH 20 λ K hK=>?_
  go_simp
  refine goH hK trivial λ hJ=>?_
  clear hK K
  refine wpAnyH_done (by kernel_rfl) ?_ _
  go_wp2_with fail
  go_meet
  exact⟨_,_,Xj ⟨by simp,HPS.o⟩⟩
 obtain⟨va2,gs2,HR2⟩:=hcut
 go_wp2_with fail
 go_roundw
 case rel=>exact⟨k-1,va2,gs2,by go_num,Xj ⟨by have h0:=HKP.o;have h1:=HR.o.1;have h2:=HR2.o.1;omega,HR2.o.2⟩⟩
 have h0:=HKP.o;simp[intOf];omega
end
theorem okH.not23 {h:Hd} {ar:Fo} (k:okH h ar):h.k≠2/\h.k≠3:=by
 rcases k with⟨_,_,k⟩|⟨_,k,_⟩|⟨_,_,k⟩
 ·rcases k with⟨k,_⟩|⟨k,_⟩|⟨k,_⟩|⟨k,_⟩|⟨k,_⟩|⟨k,_⟩|⟨k,_⟩<;>omega
 ·omega
 rcases k with⟨k,_⟩|⟨k,_⟩<;>omega
theorem okN.len {nm:Bt} (h:okN nm):nm.length<=4:=by
 obtain⟨_,_,_,_,_,_,hl⟩:=h
 exact hl
theorem Cn (n:Nat):(tabs n).length=n:=List.length_replicate
theorem Gz (xs:Fo) (hw:xs.wf) (i:Nat):(Jj xs i).length<=xs.cst:=by
 unfold Jj
 cases h:(Yl xs)[i]? with
 | none=>simp
 | some a=>exact Nat.le_trans (xjj _ _ _ h) (Mp xs hw)
theorem Ot (os:List (Hd×Bt)) (a b:Hd×Bt) (h0:os[0]?=some a) (h1:os[1]?=some b):a.2.length+b.2.length<=tot os:=by
 cases os with
 | nil=>simp at h0
 | cons x r =>
  cases r with
  | nil=>simp at h1
  | cons y r =>
   simp at h0 h1
   subst h0 h1
   simp only[tot];omega
theorem Aq (xs:Fo) (hw:xs.wf):(Jj xs 0).length+(Jj xs 1).length<=xs.cst:=by
 have h0:=Gz xs hw 0
 have h1:=Gz xs hw 1
 have hc:=Mp xs hw
 unfold Jj at h0 h1 ⊢
 cases e0:(Yl xs)[0]? with
 | none=>rw[e0] at h0;cases e1:(Yl xs)[1]? with
  | none=>simp
  | some b=>rw[e1] at h1;simpa using h1
 | some a=>rw[e0] at h0;cases e1:(Yl xs)[1]? with
  | none=>simpa using h0
  | some b=>exact Nat.le_trans (Ot _ a b e0 e1) hc
theorem okS.nm {k:Int} {nm:Bt} {xs:Fo} {th el:Sf} (h:okS k nm xs th el):nm.length<=4:=by
 rcases h with⟨_,h,_⟩|⟨_,h,_⟩|⟨_,h,_⟩|⟨_,h,_⟩|⟨_,h,_⟩|⟨_,h,_⟩
 ·exact h.len
 ·exact h.len
 all_goals (rw[h];simp)
theorem Il (S:Sf) (hw:S.wf) (n:Nat) (hn:S.nst+n<=10):(Qz S n).length<=S.cst:=by
 induction S generalizing n with
 | nil=>simp[Qz]
 | cons k ln nm xs th el r ih1 ih2 ih3 =>
  obtain⟨hok,_,hx,ht,he,hr⟩:=hw
  simp only[Sf.nst] at hn
  have h1:=ih1 ht (n+1) (by omega)
  have h2:=ih2 he (n+1) (by omega)
  have h3:=ih3 hr n (by omega)
  have hv0:=Gz xs hx 0
  have hv2:=Aq xs hx
  have hnm:=hok.nm
  have htab:=Cn n
  have hb:(Ys k nm xs th el n).length<=50+xs.cst+th.cst+el.cst:=by
   unfold Ys
   split
   ·simp only[List.length_append,List.length_cons,List.length_nil];omega
   split
   ·simp only[List.length_append,List.length_cons,List.length_nil];omega
   split
   ·simp only[List.length_append,List.length_cons,List.length_nil];omega
   split
   ·simp only[List.length_append,List.length_cons,List.length_nil];omega
   split
   ·simp only[List.length_append,List.length_cons,List.length_nil];omega
   split
   ·simp only[List.length_append,List.length_cons,List.length_nil];omega
   split
   ·simp only[List.length_append,List.length_cons,List.length_nil];omega
   split
   ·split
    ·simp only[List.length_append,List.length_cons,List.length_nil];omega
    simp only[List.length_append,List.length_cons,List.length_nil];omega
   simp
  rw[Qd]
  simp only[List.length_append,List.length_cons,List.length_nil,Sf.cst]
  omega
def BOK (S:Sf):Prop:=∀ (n:Nat) (t:Bt),t=tabs n->S.nst+n<=10->∀ (W:World) (sl:Value),Xf W (λ _=>True) S sl->Calls Tryz.prog 47 #[sl,.string (st t)] W λ e w'=>e=.returned (.string (st (Qz S n)))/\Below W.heap.size W w'
theorem BOK.call {S:Sf} (h:BOK S) {n:Nat} {t:Bt} (ht:t=tabs n) (hn:S.nst+n<=10) {a:Option Addr} {c:Nat} (W:World) (hs:Xf W (λ _=>True) S (.slice a S.len c)):Calls Tryz.prog 47 #[.slice a S.len c,.string (st t)] W λ e w'=>e=.returned (.string (st (Qz S n)))/\Below W.heap.size W w':=h n t ht hn W _ hs
structure Jk (w:World) (gs:List (Bt×Int)) (fs:List Fr) (Fs:List Fn) (aa:Option Addr) (ca:Nat) (ab:Option Addr) (cb:Nat):Prop where
 gcap:gs.length<=ca/\ca<=maxLen
 fcap:fs.length<=cb/\cb<=maxLen
 gat:Wj w (λ _=>True) aa (glc gs)
 fat:Wj w (λ _=>True) ab (frc fs)
 fns:Qk w (λ _=>True) fs Fs
 gok:∀ x∈gs,okN x.1/\0<=x.2/\x.2<=5
 gn:gs.length<=4
 fok:∀ f∈fs,okN f.nm/\f.pn<=2
 f1:1<=fs.length
 f4:fs.length<=4
theorem Jk.below {w w':World} {gs:List (Bt×Int)} {fs:List Fr} {Fs:List Fn} {aa ab:Option Addr} {ca cb:Nat} (h:Jk w gs fs Fs aa ca ab cb) (hb:Below w.heap.size w w'):Jk w' gs fs Fs aa ca ab cb :=
 {h with
  gat:=h.gat.keep (λ b _ hlt=>⟨hb.block b hlt,trivial⟩) hb.size
  fat:=h.fat.keep (λ b _ hlt=>⟨hb.block b hlt,trivial⟩) hb.size
  fns:=h.fns.keep (λ b _ hlt=>⟨hb.block b hlt,trivial⟩) hb.size }
theorem Jk.of_post {gc:Nat} {w w':World} {e:Ending} (h:Nv gc w e w') :
  ∃ (gs:List (Bt×Int)) (fs:List Fr) (Fs:List Fn) (aa:Option Addr) (ca:Nat) (ab:Option Addr) (cb:Nat),e=.returned (.agg #[.slice aa gs.length ca,.slice ab fs.length cb])/\Cod w' gc/\w.grownBy w' (some gc)/\Jk w' gs fs Fs aa ca ab cb:=by
 obtain⟨M,Fs,rfl,h1,h2,h3,h4,h5,h6,h7,h8,h9,h10⟩:=h
 obtain⟨aa,ca,e1,_,c1,c2,c3,_⟩:=Yd.of_own h3
 obtain⟨ab,cb,e2,_,d1,d2,d3,_⟩:=Yd.of_own h4
 refine⟨M.gs,M.fs,Fs,aa,ca,ab,cb,by rw[e1,e2],h1,h2,⟨c1,c2⟩,⟨d1,d2⟩,?_,?_,h5.keep (λ b _ _=>⟨rfl,trivial⟩) (Nat.le_refl _),h6,h7,h8,h9,h10⟩
 ·intro hx;obtain⟨b,off,e,hb,hc⟩:=c3 hx;exact⟨b,off,e,trivial,hb,hc⟩
 intro hx;obtain⟨b,off,e,hb,hc⟩:=d3 hx;exact⟨b,off,e,trivial,hb,hc⟩
theorem Bv (l:List Bt) (h:∀ x∈l,x.length<=4):(comm l).length<=6*l.length:=by
 induction l with
 | nil=>simp[comm]
 | cons a r ih =>
  have h1:=h a (by simp)
  have h2:=ih (λ x hx=>h x (by simp[hx]))
  cases r with
  | nil=>simp[comm];omega
  | cons b r =>
   show (a++(([44,32]:Bt)++comm (b::r))).length<=6*((b::r).length+1)
   rw[List.length_append,List.length_append]
   simp only[List.length_cons,List.length_nil] at h2 ⊢
   omega
theorem Dz (n:Int) (h0:0<=n) (h1:n<=5):(Lib.decDigits n.toNat).length<=19:=Zg (by omega)
theorem In (x:Bt×Int) (h:okN x.1/\0<=x.2/\x.2<=5):(Jt x).length<=40:=by
 have h1:=h.1.len
 have h2:=Dz x.2 h.2.1 h.2.2
 unfold Jt
 split
 ·simp only[List.length_append,List.length_cons,List.length_nil];omega
 simp only[List.length_append,List.length_cons,List.length_nil];omega
theorem Mg {α:Type} (f:α->Bt) (c:Nat) (l:List α) (h:∀ x∈l,(f x).length<=c):(l.flatMap f).length<=l.length*c:=by
 induction l with
 | nil=>simp
 | cons a r ih =>
  rw[List.flatMap_cons,List.length_append,List.length_cons,Nat.add_mul]
  have:=h a (by simp)
  have:=ih (λ x hx=>h x (by simp[hx]))
  omega
theorem Ir {w:World} {P:Nat->Prop} {f:Fr} {F:Fn} (h:Hv w P f F) (hn:okN f.nm/\f.pn<=2):(Gm F).length<=9200/\F.bd.nst+1<=10/\F.nm.length<=4/\F.ps.length<=2/\∀ p∈F.ps,p.length<=4:=by
 obtain⟨h1,h2,_,_,_,_,h7,_,h9,h10,h11,_⟩:=h
 have hp:∀ p∈F.ps,p.length<=4:=λ p hp=>(h7 p hp).len
 have hl:=Il F.bd h9 1 (by omega)
 have hc:=Bv F.ps hp
 have hnm:=hn.1.len
 rw[h1] at hnm
 have hps:F.ps.length<=2:=by have:=hn.2;omega
 refine⟨?_,by omega,hnm,hps,hp⟩
 unfold Gm
 simp only[List.length_append,List.length_cons,List.length_nil]
 omega
theorem Qk.get2 {w:World} {P:Nat->Prop} {fs:List Fr} {Fs:List Fn} (h:Qk w P fs Fs) {j:Nat} {F:Fn} (hj:Fs[j]?=some F):∃ f,fs[j]?=some f/\Hv w P f F:=by
 have hl:=h.len
 have hlt:=(List.getElem?_eq_some_iff.1 hj).1
 obtain⟨F',e,hF⟩:=h.get (f:=fs[j]'(by omega)) (List.getElem?_eq_getElem (by omega))
 rw[hj] at e
 injection e with e
 subst e
 exact⟨_,List.getElem?_eq_getElem (by omega),hF⟩
theorem Jk.fmtF_le {w:World} {gs:List (Bt×Int)} {fs:List Fr} {Fs:List Fn} {aa ab:Option Addr} {ca cb:Nat} (h:Jk w gs fs Fs aa ca ab cb):∀ F∈Fs,(Gm F).length<=9200:=by
 intro F hF
 obtain⟨j,hj,e⟩:=List.mem_iff_getElem.1 hF
 obtain⟨f,hf,hFn⟩:=h.fns.get2 (j:=j) (F:=F) (by rw[List.getElem?_eq_getElem hj,e])
 exact(Ir hFn (h.fok f (List.mem_of_getElem? hf))).1
theorem Jk.len {w:World} {gs:List (Bt×Int)} {fs:List Fr} {Fs:List Fn} {aa ab:Option Addr} {ca cb:Nat} (h:Jk w gs fs Fs aa ca ab cb):(An gs Fs).length<=37000:=by
 have h1:=Mg Jt 40 gs (λ x hx=>In x (h.gok x hx))
 have h2:=Mg Gm 9200 Fs h.fmtF_le
 have h3:=h.fns.len
 have h4:=h.gn
 have h5:=h.f4
 have h6:gs.length*40<=4*40:=Nat.mul_le_mul_right _ h4
 have h7:Fs.length*9200<=4*9200:=Nat.mul_le_mul_right _ (by omega)
 unfold An
 rw[List.length_append]
 omega
end Go.Proofs.YtldgghnjminhiaaGreatDoor
