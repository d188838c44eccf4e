/-
  WALK of Number (chapter 5's reference). (Filled in from a template of this repo.)
  WORDS for the walk of Source: the globals. (Filled in from a template of this repo.)
  WORDS for the walk of Source: the functions. (Filled in from a template of this repo.)
  WORDS for the walk of Source: a function's parameters. (Filled in from a template of this repo.)
  WORDS for the walk of Source: the bodies. (Filled in from a template of this repo.)
  WALK of Source: the globals. (Filled in from a template of this repo, printed by mk_dto.py.)
-/
import Derived.Test.YtpcdinelpfbpfaaDoorMdp
import Derived.Test.YtpcdinelpfbpfaaDoorMrp
import Derived.Test.YtpcdinelpfbpfaaDoorMdk
import Derived.Laws.OwnMore
namespace Go.Proofs.YtpcdinelpfbpfaaDoor
open Go.ChangeShapes Go.WideShapes Go.ChangeAt Go.RowKit
set_option linter.unusedVariables false
set_option linter.unusedSimpArgs false

theorem dec_len (k:Nat) : ∀ n,n<10 ^ (k+1)->(Lib.decDigits n).length<=k+1:=by
 induction k with
 | zero=>intro n hn;rw [Lib.decDigits_one (by simpa using hn)];simp
 | succ k ih =>
  intro n hn
  by_cases h:n<10
  ·rw [Lib.decDigits_one h];simp
  ·rw [Lib.decDigits,dif_neg h,List.length_append]
   have:=ih (n / 10) (by rw [Nat.pow_succ] at hn;omega)
   simp;omega
theorem dec_len19 {n:Nat} (hn:n<=9223372036854775807):(Lib.decDigits n).length<=19:=dec_len 18 n (by omega)
set_option maxRecDepth 100000 in
set_option maxHeartbeats 4000000 in
theorem Number_any (n:Nat) (hn:n<=9223372036854775807) (w:World):Calls Tryd.prog 18 #[.int .i64 (n:Int)] w fun e w'=>e=.returned (.string (st (Lib.decDigits n)))/\Below w.heap.size w w':=by
 induction n using Nat.strongRecOn generalizing w with
 | _ n ih =>
  have HI:=Lib.hid ih
  clear ih
  have hm:((n:Int) % 10)=((n % 10:Nat):Int):=by omega
  obtain⟨r,hr⟩ : ∃ r:Int,(n:Int) % 10=r:=⟨_,rfl⟩
  have r0:0<=r:=by omega
  have r1:r<10:=by omega
  have hu8:IntKind.u8.wrap (48+r)=48+r:=by unfold IntKind.wrap;simp [IntKind.signed,IntKind.bits];omega
  have HC:Hid (UInt8.ofNat (48+n % 10)=UInt8.ofNat (48+r.toNat)/\(((UInt8.ofNat (48+r.toNat)).toNat:Nat):Int)=48+r):=Lib.hid ⟨by congr 2;omega,by rw [UInt8.toNat_ofNat'];omega⟩
  obtain⟨c,hc⟩ : ∃ c,UInt8.ofNat (48+r.toNat)=c:=⟨_,rfl⟩
  rw [hc] at HC
  have hkc : ∀ W:World,(convert 22 9 (.slice (some ⟨W.heap.size,0,none⟩) 1 1)).run Tryd.prog (W.alloc (.cells #[.int .u8 (48+r)] 5))=.ok (.string (st [c])) (W.alloc (.cells #[.int .u8 (48+r)] 5)):=fun W =>
   run_convert_bytes_back _ 22 9 5 ⟨W.heap.size,0,none⟩ 1 [c] Tryd.underlying22 Tryd.underlying5 Tryd.underlying9 (fun j hj=>by
    have h0:j=0:=by simp at hj;omega
    subst h0
    rw [add_none,Nat.zero_add,cell_of_row _ _ 0 _ _ _ (heap_alloc_new W _)]
    show some (Value.int .u8 (48+r))=some (Value.int .u8 (c.toNat:Int))
    rw [HC.out.2])
  have kc:=hkc w
  clear hc hm hkc
  by_cases h10:n<10
  ·have HD:Hid (Lib.decDigits n=[c]):=Lib.hid (by rw [Lib.decDigits_one h10,<- HC.out.1];congr 3;omega)
   have d0:decide ((10:Int)<=(n:Int))=false:=by rw [decide_eq_false_iff_not];omega
   go_enter Tryd.func18,Tryd.ntmps18
   go_wp2_with fail
   refine bodyPost_ret (v:=.string (st [c])) (by simp [results,Tryd.results18,go_sem]) rfl ?_
   exact⟨by rw [HD.out],below_alloc _ _⟩
  ·have HD:Hid (Lib.decDigits n=Lib.decDigits (n / 10)++[c]):=Lib.hid (by rw [Lib.decDigits,dif_neg h10,HC.out.1])
   have d0:decide ((10:Int)<=(n:Int))=true:=by rw [decide_eq_true_iff];omega
   have hcall:=fun W=>HI.out (n / 10) (by omega) (by omega) W
   rw [show (((n / 10:Nat)):Int)=(n:Int) / 10 by omega] at hcall
   obtain⟨q,hq⟩ : ∃ q:Int,(n:Int) / 10=q:=⟨_,rfl⟩
   rw [hq] at hcall
   have q0:0<=q:=by omega
   have q1:q<=922337203685477580:=by omega
   have HCL:=Lib.hid hcall
   clear hcall
   go_enter Tryd.func18,Tryd.ntmps18
   go_wp2_with fail
   refine(HCL.out _).mono ?_
   rintro e w2 ⟨rfl,hb⟩
   have HB:=Lib.hid ((below_alloc w (.cells #[.int .u8 (48+r)] 5)).trans (hb.mono (by simp)))
   have hst : ∀ x y:Bt,st x++st y=st (x++y):=fun x y=>by apply ByteArray.ext;simp [ByteArray.data_append]
   have hl:=dec_len19 (n:=n / 10) (by omega)
   go_wp2_with fail
   refine bodyPost_ret (v:=.string (st (Lib.decDigits (n / 10)++[c]))) (by simp [results,Tryd.results18,go_sem,hst]) rfl ?_
   exact⟨by rw [HD.out],HB.out⟩
end Go.Proofs.YtpcdinelpfbpfaaDoor
namespace Go.Proofs.YtpcdinelpfbpfaaDoor
open Go.ChangeShapes Go.WideShapes Go.ChangeAt Go.RowKit
set_option linter.unusedVariables false
set_option linter.unusedSimpArgs false

theorem okN_num (c:UInt8) (hc:c=103\/c=102\/c=112) (k:Nat) (hk:k<10):okN (c::Lib.decDigits k):=by
 rw [Lib.decDigits_one hk]
 have:k=0\/k=1\/k=2\/k=3\/k=4\/k=5\/k=6\/k=7\/k=8\/k=9:=by omega
 refine⟨c,_,rfl,?_,?_,?_,by simp⟩
 ·rcases hc with rfl | rfl | rfl <;> decide
 ·intro x hx
  simp at hx
  subst hx
  rcases this with rfl | rfl | rfl | rfl | rfl | rfl | rfl | rfl | rfl | rfl <;> decide
 ·rcases hc with rfl | rfl | rfl <;> rcases this with rfl | rfl | rfl | rfl | rfl | rfl | rfl | rfl | rfl | rfl <;> decide
theorem okN_main:okN [109,97,105,110]:=⟨_,_,rfl,by decide,by decide,by decide,by decide⟩
theorem Tryd.infoGlob:(Tryd.prog.info? 62).map (fun i=>(i.zero,i.size,i.bytes))=some (some (.agg #[.string ⟨#[]⟩,.int .i64 0]),2,24):=by kernel_rfl
theorem Tryd.infoFunc:(Tryd.prog.info? 66).map (fun i=>(i.zero,i.size,i.bytes))=some (some (.agg #[.string ⟨#[]⟩,.int .i64 0,.slice none 0 0,.slice none 0 0]),4,72):=by kernel_rfl
theorem glc_push (l:List (Bt×Int)) (x:Bt×Int):glc l++[.string (st x.1),.int .i64 x.2]=glc (l++[x]):=by unfold glc;simp
theorem frc_push (l:List Fr) (f:Fr):frc l++[.string (st f.nm),.int .i64 0,.slice f.pa f.pn f.pc,.slice f.ba f.bn f.bc]=frc (l++[f]):=by unfold frc;simp
abbrev zso:Obj:=.cells #[.slice none 0 0,.slice none 0 0] 32 (0,0)
abbrev grow (gc:Nat) (va:Value):Obj:=.cells #[.pointer (some ⟨gc,0,none⟩),va,.slice none 0 0,.slice none 0 0,.int .i64 0] 70 (0,0)
structure SrcG (w wx:World) (gc gm g:Nat) (va:Value) (gs:List (Bt×Int)):Prop where
 eg:g=w.heap.size
 em:gm=g+1
 lc:gc<g
 res:wx.heap[g]?=some zso
 cod:Cod wx gc
 row:wx.heap[gm]?=some (grow gc va)
 gl:wx.ownsRow (gm+1) 62 2 va gs.length (glc gs)
 gok : ∀ x∈gs,okN x.1/\0<=x.2/\x.2<=5
 gr:w.grownBy wx (some gc)
theorem SrcG.grown {w wx wy:World} {gc gm g:Nat} {va:Value} {gs:List (Bt×Int)} (h:SrcG w wx gc gm g va gs) (hg:wx.grownBy wy (some gc)) (hc:Cod wy gc):SrcG w wy gc gm g va gs :=
 {h with
  res:=(hg.block g (heap_lt h.res) (by simp;have:=h.lc;omega)).trans h.res
  cod:=hc
  row:=(hg.block gm (heap_lt h.row) (by simp;have:=h.lc;have:=h.em;omega)).trans h.row
  gl:=own_grown h.gl hg (by have:=h.lc;have:=h.em;omega)
  gr:=grownBy_trans h.gr hg }
theorem SrcG.below {w wx wy:World} {gc gm g:Nat} {va:Value} {gs:List (Bt×Int)} (h:SrcG w wx gc gm g va gs) (hb:Below wx.heap.size wx wy):SrcG w wy gc gm g va gs :=
 h.grown (grownBy_of_below hb _) (h.cod.below hb h.cod.lt)
theorem SrcG.push {w wx w9:World} {gc gm g g9 c9:Nat} {va:Value} {gs:List (Bt×Int)} {nm:Bt} {z:Int} {ob:Obj} (h:SrcG w wx gc gm g va gs) (hn:okN nm) (hz0:0<=z) (hz5:z<=5)
  (hg:(wx.alloc ob).grownBy w9 va.ownBlock) (ho:w9.ownsRow (gm+1) 62 2 (.slice (some ⟨g9,0,none⟩) (gs.length+1) c9) (gs.length+1) (glc gs++[.string (st nm),.int .i64 z])) :
  SrcG w (w9.setCell ⟨gm,1,none⟩ (.slice (some ⟨g9,0,none⟩) (gs.length+1) c9)) gc gm g (.slice (some ⟨g9,0,none⟩) (gs.length+1) c9) (gs++[(nm,z)]):=by
 have hA:=below_alloc wx ob
 have hsA:(wx.alloc ob).heap.size=wx.heap.size+1:=by simp
 have hv : ∀ k,va.ownBlock=some k->gm+1<=k:=fun k hk=>(h.gl.lt k hk).1
 have hlt:=heap_lt h.row
 have em:=h.em
 have lc:=h.lc
 have kp : ∀ k,k<wx.heap.size->k<=gm->w9.heap[k]?=wx.heap[k]?:=fun k hk hkm=>(hg.block k (by omega) (fun e=>by have:=hv k e.symm;omega)).trans (hA.block k hk)
 have hset:=grownBy_set w9 gm 1 (.slice (some ⟨g9,0,none⟩) (gs.length+1) c9)
 exact
 {eg:=h.eg,em:=h.em,lc:=h.lc
  res:=(heap_setCell_other w9 ⟨gm,1,none⟩ g _ (by show g≠gm;omega)).trans ((kp g (heap_lt h.res) (by omega)).trans h.res)
  cod:=(h.cod.keep fun k hk=>kp k (by omega) (by omega)).keep fun k hk=>heap_setCell_other w9 ⟨gm,1,none⟩ k _ (by show k≠gm;omega)
  row:=heap_setCell_same _ gm 1 _ _ _ ((kp gm hlt (Nat.le_refl _)).trans h.row)
  gl:=by
   have:=own_grown ho hset (by omega)
   rw [glc_push gs (nm,z)] at this
   simpa using this
  gok:=by
   intro x hx
   rw [List.mem_append] at hx
   rcases hx with hx | hx
   ·exact h.gok x hx
   ·simp at hx;subst hx;exact⟨hn,hz0,hz5⟩
  gr:=by
   have e1:=h.eg
   exact grown_set1 (p:=⟨gm,1,none⟩) ⟨hg.os.trans (hA.os.trans h.gr.os),hg.tape.trans (hA.tape.trans h.gr.tape),hg.output.trans (hA.output.trans h.gr.output),by have:=h.gr.size;have:=hg.size;omega,fun k hk hn=>by
    have:=h.gr.size
    rw [kp k (by omega) (by omega),h.gr.block k hk hn]⟩ (by show w.heap.size<=gm;omega) }
end Go.Proofs.YtpcdinelpfbpfaaDoor
namespace Go.Proofs.YtpcdinelpfbpfaaDoor
open Go.ChangeShapes Go.WideShapes Go.ChangeAt Go.RowKit
set_option linter.unusedVariables false
set_option linter.unusedSimpArgs false

structure Fn where
 nm:Bt
 ps:List Bt
 bd:Sf
def FnAt (w:World) (P:Nat->Prop) (f:Fr) (F:Fn):Prop :=
 f.nm=F.nm/\f.pn=F.ps.length/\f.pn<=f.pc/\f.pc<=maxLen/\(f.pa=none->f.pc=0)/\SlAt w P f.pa (strs F.ps)/\(∀ p∈F.ps,okN p)/\StsAt w P F.bd (.slice f.ba f.bn f.bc) /\
 F.bd.wf/\F.bd.cst<=9100/\F.bd.nst<=3/\F.bd.hgt<=3
def FnsAt (w:World) (P:Nat->Prop):List Fr->List Fn->Prop
 | [],[]=>True
 | f::fs,F::Fs=>FnAt w P f F/\FnsAt w P fs Fs
 | _,_=>False
theorem FnAt.keep {w w':World} {P Q:Nat->Prop} {f:Fr} {F:Fn} (h:FnAt w P f F) (hk : ∀ b,P b->b<w.heap.size->w'.heap[b]?=w.heap[b]?/\Q b) (hs:w.heap.size<=w'.heap.size):FnAt w' Q f F:=by
 obtain⟨h1,h2,h3,h4,h5,h6,h7,h8,h9⟩:=h
 exact⟨h1,h2,h3,h4,h5,h6.keep hk hs,h7,h8.keep hk hs,h9⟩
theorem FnsAt.keep {w w':World} {P Q:Nat->Prop} {fs:List Fr} {Fs:List Fn} (h:FnsAt w P fs Fs) (hk : ∀ b,P b->b<w.heap.size->w'.heap[b]?=w.heap[b]?/\Q b) (hs:w.heap.size<=w'.heap.size):FnsAt w' Q fs Fs:=by
 induction fs generalizing Fs with
 | nil=>cases Fs with
  | nil=>trivial
  | cons F Fs=>exact h
 | cons f fs ih=>cases Fs with
  | nil=>exact h
  | cons F Fs=>exact⟨h.1.keep hk hs,ih h.2⟩
theorem FnsAt.len {w:World} {P:Nat->Prop} {fs:List Fr} {Fs:List Fn} (h:FnsAt w P fs Fs):fs.length=Fs.length:=by
 induction fs generalizing Fs with
 | nil=>cases Fs with
  | nil=>rfl
  | cons F Fs=>exact absurd h id
 | cons f fs ih=>cases Fs with
  | nil=>exact absurd h id
  | cons F Fs=>simp [ih h.2]
theorem FnsAt.push {w:World} {P:Nat->Prop} {fs:List Fr} {Fs:List Fn} {f:Fr} {F:Fn} (h:FnsAt w P fs Fs) (k:FnAt w P f F):FnsAt w P (fs++[f]) (Fs++[F]):=by
 induction fs generalizing Fs with
 | nil=>cases Fs with
  | nil=>exact⟨k,trivial⟩
  | cons F Fs=>exact absurd h id
 | cons f fs ih=>cases Fs with
  | nil=>exact absurd h id
  | cons F Fs=>exact⟨h.1,ih h.2⟩
theorem FnsAt.get {w:World} {P:Nat->Prop} {fs:List Fr} {Fs:List Fn} (h:FnsAt w P fs Fs) {j:Nat} {f:Fr} (hj:fs[j]?=some f) : ∃ F,Fs[j]?=some F/\FnAt w P f F:=by
 induction fs generalizing Fs j with
 | nil=>simp at hj
 | cons f' fs ih=>cases Fs with
  | nil=>exact absurd h id
  | cons F Fs =>
   cases j with
   | zero=>simp at hj;subst hj;exact⟨F,rfl,h.1⟩
   | succ j=>exact ih h.2 (by simpa using hj)
theorem FnsAt.set {w:World} {P:Nat->Prop} {fs:List Fr} {Fs:List Fn} {f:Fr} {F:Fn} (h:FnsAt w P fs Fs) (k:FnAt w P f F) (j:Nat):FnsAt w P (fs.set j f) (Fs.set j F):=by
 induction fs generalizing Fs j with
 | nil=>cases Fs with
  | nil=>trivial
  | cons F Fs=>exact absurd h id
 | cons f' fs ih=>cases Fs with
  | nil=>exact absurd h id
  | cons F' Fs =>
   cases j with
   | zero=>exact⟨k,h.2⟩
   | succ j=>exact⟨h.1,ih h.2 j⟩
theorem own_new (w:World) (cs:Array Value) (base e s n:Nat) (hs:cs.size=n * s) (hb:base<=w.heap.size) (hn:n<=maxLen):(w.alloc (.cells cs e)).ownsRow base e s (.slice (some ⟨w.heap.size,0,none⟩) n n) n cs.toList :=
 ⟨by simpa using hs,.inr ⟨w.heap.size,n,cs,rfl,hb,heap_alloc_new w _,Nat.le_refl _,hn,hs,List.take_of_length_le (by simp;omega)⟩⟩
def PB (gm:Nat) (M:Mk):Nat->Prop:=fun b=>gm<b/\some b≠M.vl.ownBlock/\some b≠M.vb.ownBlock
structure SrcF (w wx:World) (gc gm g:Nat) (M:Mk) (Fs:List Fn):Prop where
 eg:g=w.heap.size
 em:gm=g+1
 lc:gc<g
 res:wx.heap[g]?=some zso
 mkr:MkAt wx gc gm M
 gr:w.grownBy wx (some gc)
 fns:FnsAt wx (PB gm M) M.fs Fs
theorem SrcF.grown {w wx wy:World} {gc gm g:Nat} {M:Mk} {Fs:List Fn} (h:SrcF w wx gc gm g M Fs) (hg:wx.grownBy wy (some gc)) (hc:Cod wy gc):SrcF w wy gc gm g M Fs :=
 {h with
  res:=(hg.block g (heap_lt h.res) (by simp;have:=h.lc;omega)).trans h.res
  mkr:=h.mkr.grown hg hc
  gr:=grownBy_trans h.gr hg
  fns:=h.fns.keep (fun b hb hlt=>⟨hg.block b hlt (by simp;have:=hb.1;have:=h.lc;have:=h.em;omega),hb⟩) hg.size }
theorem SrcF.below {w wx wy:World} {gc gm g:Nat} {M:Mk} {Fs:List Fn} (h:SrcF w wx gc gm g M Fs) (hb:Below wx.heap.size wx wy):SrcF w wy gc gm g M Fs :=
 h.grown (grownBy_of_below hb _) (h.mkr.cod.below hb h.mkr.cod.lt)
theorem SrcF.far {w wx wy:World} {gc gm g:Nat} {M:Mk} {Fs:List Fn} {r:Option Nat} (h:SrcF w wx gc gm g M Fs) (hg:wx.grownBy wy r) (hr : ∀ k,r=some k->gm<k/\M.va.ownBlock≠some k/\M.vb.ownBlock≠some k/\M.vl.ownBlock≠some k)
  (hf:FnsAt wx (fun b=>PB gm M b/\some b≠r) M.fs Fs):SrcF w wy gc gm g M Fs :=
 have e1:=h.eg
 have e2:=h.em
 have e3:=h.lc
 have key : ∀ {e k n:Nat} {u:Value} {l:List Value},(∀ q,r=some q->u.ownBlock≠some q)->wx.ownsRow (gm+1) e k u n l->wy.ownsRow (gm+1) e k u n l:=fun hq h1 =>
  own_same h1 (fun q hq2=>hg.block q (h1.lt q hq2).2 (fun e=>hq q e.symm hq2))
 {h with
  res:=(hg.block g (heap_lt h.res) (fun e=>by have:=(hr g e.symm).1;omega)).trans h.res
  mkr:={ h.mkr with
   cod:=h.mkr.cod.keep fun k hk=>hg.block k (by have:=h.mkr.cod.lt;omega) (fun e=>by have:=(hr k e.symm).1;have:=h.mkr.lt;omega)
   row:=(hg.block gm (heap_lt h.mkr.row) (fun e=>by have:=(hr gm e.symm).1;omega)).trans h.mkr.row
   gl:=key (fun q hq=>(hr q hq).2.1) h.mkr.gl
   fn:=key (fun q hq=>(hr q hq).2.2.1) h.mkr.fn
   lo:=key (fun q hq=>(hr q hq).2.2.2) h.mkr.lo }
  gr:=⟨hg.os.trans h.gr.os,hg.tape.trans h.gr.tape,hg.output.trans h.gr.output,Nat.le_trans h.gr.size hg.size,fun k hk hn=>(hg.block k (Nat.lt_of_lt_of_le hk h.gr.size) (fun e=>by have:=(hr k e.symm).1;omega)).trans (h.gr.block k hk hn)⟩
  fns:=hf.keep (fun b hb hlt=>⟨hg.block b hlt hb.2,hb.1⟩) hg.size }
theorem SrcG.main {w wx:World} {gc gm g:Nat} {va:Value} {gs:List (Bt×Int)} (h:SrcG w wx gc gm g va gs) (hn:gs.length<=4) :
  SrcF w ((wx.alloc (.cells #[.string (st [109,97,105,110]),.int .i64 0,.slice none 0 0,.slice none 0 0] 66)).setCell ⟨gm,2,none⟩ (.slice (some ⟨wx.heap.size,0,none⟩) 1 1)) gc gm g
   ⟨va,.slice (some ⟨wx.heap.size,0,none⟩) 1 1,.slice none 0 0,gs,[⟨[109,97,105,110],none,0,0,none,0,0⟩],[],0⟩ [⟨[109,97,105,110],[],.nil⟩]:=by
 have hA:=below_alloc wx (.cells #[.string (st [109,97,105,110]),.int .i64 0,.slice none 0 0,.slice none 0 0] 66)
 have hset:=grownBy_set (wx.alloc (.cells #[.string (st [109,97,105,110]),.int .i64 0,.slice none 0 0,.slice none 0 0] 66)) gm 2 (.slice (some ⟨wx.heap.size,0,none⟩) 1 1)
 have hlt:=heap_lt h.row
 have em:=h.em
 have lc:=h.lc
 have eg:=h.eg
 have hgA:=h.below hA
 have hown:=own_new wx #[.string (st [109,97,105,110]),.int .i64 0,.slice none 0 0,.slice none 0 0] (gm+1) 66 4 1 rfl (by omega) (by simp [maxLen])
 exact
 {eg:=h.eg,em:=h.em,lc:=h.lc
  res:=(heap_setCell_other _ ⟨gm,2,none⟩ g _ (by show g≠gm;omega)).trans hgA.res
  mkr :=
  {cod:=hgA.cod.keep fun k hk=>heap_setCell_other _ ⟨gm,2,none⟩ k _ (by show k≠gm;omega)
   lt:=by omega
   row:=heap_setCell_same _ gm 2 _ _ _ hgA.row
   gl:=own_grown hgA.gl hset (by omega)
   fn:=own_grown hown hset (by omega)
   lo:=World.ownsRow_nil _ _ _ _
   gok:=h.gok,fok:=by intro f hf;simp at hf;subst hf;exact⟨okN_main,by simp⟩,lok:=by simp,gn:=hn,fn1:=by simp,fn2:=by simp,ln:=by simp }
  gr:=grown_set1 (p:=⟨gm,2,none⟩) hgA.gr (by show w.heap.size<=gm;omega)
  fns:=⟨⟨rfl,rfl,Nat.le_refl _,by simp [maxLen],fun _=>rfl,fun e=>absurd rfl e,by simp,StsAt.nil _ _,trivial,by simp [Sf.cst],by simp [Sf.nst],by simp [Sf.hgt]⟩,trivial⟩ }
theorem SrcF.push {w wx w9:World} {gc gm g g9 c9:Nat} {M:Mk} {Fs:List Fn} {f:Fr} {F:Fn} {ob:Obj} (h:SrcF w wx gc gm g M Fs) (hl0:M.vl=.slice none 0 0) (hok:okN f.nm/\f.pn<=2) (hn:M.fs.length<=3) (hF:FnAt wx (fun b=>gm<b/\some b≠M.vb.ownBlock) f F)
  (hg:(wx.alloc ob).grownBy w9 M.vb.ownBlock) (h9:M.vb.ownBlock=some g9\/g9=(wx.alloc ob).heap.size)
  (ho:w9.ownsRow (gm+1) 66 4 (.slice (some ⟨g9,0,none⟩) (M.fs.length+1) c9) (M.fs.length+1) (frc M.fs++[.string (st f.nm),.int .i64 0,.slice f.pa f.pn f.pc,.slice f.ba f.bn f.bc])) :
  SrcF w (w9.setCell ⟨gm,2,none⟩ (.slice (some ⟨g9,0,none⟩) (M.fs.length+1) c9)) gc gm g { M with vb:=.slice (some ⟨g9,0,none⟩) (M.fs.length+1) c9,fs:=M.fs++[f] } (Fs++[F]):=by
 have hA:=below_alloc wx ob
 have hsA:(wx.alloc ob).heap.size=wx.heap.size+1:=by simp
 have hvb : ∀ k,M.vb.ownBlock=some k->gm+1<=k/\k<wx.heap.size:=fun k hk=>h.mkr.fn.lt k hk
 have em:=h.em
 have lc:=h.lc
 have eg:=h.eg
 have hs9:=hg.size
 have kp : ∀ k,k<wx.heap.size->M.vb.ownBlock≠some k->w9.heap[k]?=wx.heap[k]?:=fun k hk hne=>(hg.block k (by omega) (fun e=>hne e.symm)).trans (hA.block k hk)
 have hset:=grownBy_set w9 gm 2 (.slice (some ⟨g9,0,none⟩) (M.fs.length+1) c9)
 have hlow : ∀ k,k<=gm->k<wx.heap.size->w9.heap[k]?=wx.heap[k]?:=fun k hk hlt=>kp k hlt (fun e=>by have:=(hvb k e).1;omega)
 have hkp : ∀ b,gm<b->some b≠M.vb.ownBlock->b<wx.heap.size->(w9.setCell ⟨gm,2,none⟩ (.slice (some ⟨g9,0,none⟩) (M.fs.length+1) c9)).heap[b]?=wx.heap[b]?/\PB gm { M with vb:=.slice (some ⟨g9,0,none⟩) (M.fs.length+1) c9,fs:=M.fs++[f] } b:=fun b h1 h2 h3 =>
  ⟨(heap_setCell_other w9 ⟨gm,2,none⟩ b _ (by show b≠gm;omega)).trans (kp b h3 (fun e=>h2 e.symm)),h1,by show some b≠M.vl.ownBlock;rw [hl0];simp [Value.ownBlock],by
   show some b≠some g9
   rcases h9 with h9 | h9
   ·rw [<- h9];exact h2
   ·simp;omega⟩
 have hsz:wx.heap.size<=(w9.setCell ⟨gm,2,none⟩ (.slice (some ⟨g9,0,none⟩) (M.fs.length+1) c9)).heap.size:=by simp [World.setCell];omega
 exact
 {eg:=h.eg,em:=h.em,lc:=h.lc
  res:=(heap_setCell_other w9 ⟨gm,2,none⟩ g _ (by show g≠gm;omega)).trans ((hlow g (by omega) (heap_lt h.res)).trans h.res)
  mkr:={ h.mkr with
   cod:=(h.mkr.cod.keep fun k hk=>hlow k (by omega) (by have:=h.mkr.cod.lt;omega)).keep fun k hk=>heap_setCell_other w9 ⟨gm,2,none⟩ k _ (by show k≠gm;omega)
   row:=heap_setCell_same _ gm 2 _ _ _ ((hlow gm (Nat.le_refl _) (heap_lt h.mkr.row)).trans h.mkr.row)
   gl:=own_grown (own_same h.mkr.gl (fun q hq=>kp q (h.mkr.gl.lt q hq).2 (own_ne h.mkr.gl h.mkr.fn (by decide) q hq))) hset (by omega)
   fn:=by
    have:=own_grown ho hset (by omega)
    rw [frc_push] at this
    simpa using this
   lo:=own_grown (own_same h.mkr.lo (fun q hq=>kp q (h.mkr.lo.lt q hq).2 (own_ne h.mkr.lo h.mkr.fn (by decide) q hq))) hset (by omega)
   fok:=by
    intro x hx
    rw [List.mem_append] at hx
    rcases hx with hx | hx
    ·exact h.mkr.fok x hx
    ·simp at hx;subst hx;exact hok
   fn1:=by show 1<=(M.fs++[f]).length;simp
   fn2:=by show (M.fs++[f]).length<=4;simp;omega }
  gr:=grown_set1 (p:=⟨gm,2,none⟩) ⟨hg.os.trans (hA.os.trans h.gr.os),hg.tape.trans (hA.tape.trans h.gr.tape),hg.output.trans (hA.output.trans h.gr.output),by have:=h.gr.size;omega,fun k hk hne=>by
   have:=h.gr.size
   rw [hlow k (by omega) (by omega),h.gr.block k hk hne]⟩ (by show w.heap.size<=gm;omega)
  fns:=(h.fns.keep (fun b hb hlt=>hkp b hb.1 hb.2.2 hlt) hsz).push (hF.keep (fun b hb hlt=>hkp b hb.1 hb.2 hlt) hsz) }
end Go.Proofs.YtpcdinelpfbpfaaDoor
namespace Go.Proofs.YtpcdinelpfbpfaaDoor
open Go.ChangeShapes Go.WideShapes Go.ChangeAt Go.RowKit
set_option linter.unusedVariables false
set_option linter.unusedSimpArgs false

abbrev prow (nm:Bt) (pa:Option Addr) (n c:Nat):Obj:=.cells #[.string (st nm),.int .i64 0,.slice pa n c,.slice none 0 0] 66 (0,0)
structure PSt (w wx:World) (gc gm g:Nat) (M:Mk) (Fs:List Fn) (g7:Nat) (nm:Bt) (pa:Option Addr) (pc:Nat) (ps:List Bt):Prop where
 src:SrcF w wx gc gm g M Fs
 row:wx.heap[g7]?=some (prow nm pa ps.length pc)
 own:wx.ownsRow (g7+1) 9 1 (.slice pa ps.length pc) ps.length (strs ps)
 fns:FnsAt wx (fun b=>PB gm M b/\b<g7) M.fs Fs
 lt:gm<g7
 rows : ∀ k,(M.va.ownBlock=some k\/M.vb.ownBlock=some k\/M.vl.ownBlock=some k)->k<g7
 ok : ∀ p∈ps,okN p
section
variable {w wx wy:World} {gc gm g g7 pc:Nat} {M:Mk} {Fs:List Fn} {nm:Bt} {pa:Option Addr} {ps:List Bt}
theorem PSt.start (h:SrcF w wx gc gm g M Fs):PSt w (wx.alloc (prow nm none 0 0)) gc gm g M Fs wx.heap.size nm none 0 [] :=
 have hb:=below_alloc wx (prow nm none 0 0)
 {src:=h.below hb
  row:=heap_alloc_new wx _
  own:=World.ownsRow_nil _ _ _ _
  fns:=h.fns.keep (fun b hb2 hlt=>⟨hb.block b hlt,hb2,hlt⟩) hb.size
  lt:=heap_lt h.mkr.row
  rows:=fun k hk=>by
   rcases hk with hk | hk | hk
   ·exact(h.mkr.gl.lt k hk).2
   ·exact(h.mkr.fn.lt k hk).2
   ·exact(h.mkr.lo.lt k hk).2
  ok:=by simp }
theorem PSt.grown (h:PSt w wx gc gm g M Fs g7 nm pa pc ps) (hg:wx.grownBy wy (some gc)) (hc:Cod wy gc):PSt w wy gc gm g M Fs g7 nm pa pc ps :=
 have e1:=h.src.lc
 have e2:=h.src.em
 have e3:=h.lt
 {h with
  src:=h.src.grown hg hc
  row:=(hg.block g7 (heap_lt h.row) (by simp;omega)).trans h.row
  own:=own_grown h.own hg (by omega)
  fns:=h.fns.keep (fun b hb hlt=>⟨hg.block b hlt (by simp;have:=hb.1.1;omega),hb⟩) hg.size }
theorem PSt.below (h:PSt w wx gc gm g M Fs g7 nm pa pc ps) (hb:Below wx.heap.size wx wy):PSt w wy gc gm g M Fs g7 nm pa pc ps :=
 h.grown (grownBy_of_below hb _) (h.src.mkr.cod.below hb h.src.mkr.cod.lt)
theorem PSt.far {r:Option Nat} (h:PSt w wx gc gm g M Fs g7 nm pa pc ps) (hg:wx.grownBy wy r) (hr : ∀ k,r=some k->g7<=k):SrcF w wy gc gm g M Fs/\FnsAt wy (fun b=>PB gm M b/\b<g7) M.fs Fs:=by
 have e3:=h.lt
 refine⟨h.src.far hg (fun k hk=>?_) (h.fns.keep (fun b hb _=>⟨rfl,hb.1,fun e=>by have:=hr b e.symm;have:=hb.2;omega⟩) (Nat.le_refl _)),h.fns.keep (fun b hb hlt=>⟨hg.block b hlt (fun e=>by have:=hr b e.symm;have:=hb.2;omega),hb⟩) hg.size⟩
 have h7:=hr k hk
 exact⟨by omega,fun e=>by have:=h.rows k (.inl e);omega,fun e=>by have:=h.rows k (.inr (.inl e));omega,fun e=>by have:=h.rows k (.inr (.inr e));omega⟩
theorem PSt.push {w9:World} {g9 c9:Nat} {p:Bt} {ob:Obj} (h:PSt w wx gc gm g M Fs g7 nm pa pc ps) (hp:okN p) (hg:(wx.alloc ob).grownBy w9 (Value.slice pa ps.length pc).ownBlock)
  (ho:w9.ownsRow (g7+1) 9 1 (.slice (some ⟨g9,0,none⟩) (ps.length+1) c9) (ps.length+1) (strs ps++[.string (st p)])) :
  PSt w (w9.setCell ⟨g7,2,none⟩ (.slice (some ⟨g9,0,none⟩) (ps.length+1) c9)) gc gm g M Fs g7 nm (some ⟨g9,0,none⟩) c9 (ps++[p]):=by
 have hA:=h.below (below_alloc wx ob)
 have hv : ∀ k,(Value.slice pa ps.length pc).ownBlock=some k->g7+1<=k:=fun k hk=>(h.own.lt k hk).1
 have h9:=hA.far hg (fun k hk=>by have:=hv k hk;omega)
 have hset:=grownBy_set w9 g7 2 (.slice (some ⟨g9,0,none⟩) (ps.length+1) c9)
 have hrow9:w9.heap[g7]?=some (prow nm pa ps.length pc):=(hg.block g7 (heap_lt hA.row) (fun e=>by have:=hv g7 e.symm;omega)).trans hA.row
 have e3:=h.lt
 have hlen:(ps++[p]).length=ps.length+1:=by simp
 exact
 {src:=h9.1.far hset (fun k hk=>by
   injection hk with hk
   subst hk
   exact⟨e3,fun e=>by have:=h.rows g7 (.inl e);omega,fun e=>by have:=h.rows g7 (.inr (.inl e));omega,fun e=>by have:=h.rows g7 (.inr (.inr e));omega⟩) (h9.2.keep (fun b hb _=>⟨rfl,hb.1,by simp;have:=hb.2;omega⟩) (Nat.le_refl _))
  row:=by rw [hlen];exact heap_setCell_same _ g7 2 _ _ _ hrow9
  own:=by
   have:=own_grown ho hset (by omega)
   rw [hlen]
   simpa [strs] using this
  fns:=h9.2.keep (fun b hb _=>⟨heap_setCell_other w9 ⟨g7,2,none⟩ b _ (by have:=hb.2;show b≠g7;omega),hb⟩) hset.size
  lt:=h.lt,rows:=h.rows
  ok:=by
   intro x hx
   rw [List.mem_append] at hx
   rcases hx with hx | hx
   ·exact h.ok x hx
   ·simp at hx;subst hx;exact hp }
theorem PSt.fn (h:PSt w wx gc gm g M Fs g7 nm pa pc ps):FnAt wx (fun b=>gm<b/\some b≠M.vb.ownBlock) ⟨nm,pa,ps.length,pc,none,0,0⟩ ⟨nm,ps,.nil⟩:=by
 obtain⟨a,cap,e1,h1,h2,h3,h4,h5⟩:=Cells.of_own h.own
 injection e1 with e1 e2 e3
 subst e1 e3
 refine⟨rfl,rfl,h2,h3,own_nil h.own,fun hx=>?_,h.ok,StsAt.nil _ _,trivial,by simp [Sf.cst],by simp [Sf.nst],by simp [Sf.hgt]⟩
 obtain⟨b,off,e,hb,hc⟩:=h4 hx
 have:=h5 _ e
 have hb2:g7+1<=b:=this
 exact⟨b,off,e,⟨by have:=h.lt;omega,fun e=>by have:=h.rows b (.inr (.inl e.symm));omega⟩,hb,hc⟩
end
end Go.Proofs.YtpcdinelpfbpfaaDoor
namespace Go.Proofs.YtpcdinelpfbpfaaDoor
open Go.ChangeShapes Go.WideShapes Go.ChangeAt Go.RowKit
set_option linter.unusedVariables false
set_option linter.unusedSimpArgs false

theorem frc_set (fs:List Fr) (i:Nat) (f:Fr) (a:Option Addr) (n c:Nat) (h:fs[i]?=some f):(frc fs).set (i * 4+3) (.slice a n c)=frc (fs.set i { f with ba:=a,bn:=n,bc:=c }):=by
 induction fs generalizing i with
 | nil=>simp at h
 | cons f' fs ih =>
  cases i with
  | zero=>simp at h;subst h;rfl
  | succ i =>
   have:=ih i (by simpa using h)
   have e1:(i+1) * 4+3=i * 4+3+1+1+1+1:=by omega
   rw [e1]
   show _::_::_::_::(frc fs).set (i * 4+3) _=_
   rw [this]
   rfl
theorem own_base {w:World} {base base' e k n:Nat} {v:Value} {l:List Value} (h:w.ownsRow base e k v n l) (hb:base'<=base):w.ownsRow base' e k v n l:=by
 refine⟨h.1,?_⟩
 rcases h.2 with h2 | ⟨g,cap,cur,rfl,h3,h4⟩
 ·exact .inl h2
 ·exact .inr ⟨g,cap,cur,rfl,by omega,h4⟩
section
variable {w wx wy:World} {gc gm g:Nat} {M M':Mk} {Fs:List Fn}
theorem SrcF.step (h:SrcF w wx gc gm g M Fs) (hc:Chg wx wy gc gm M M') (hm:MkAt wy gc gm M'):SrcF w wy gc gm g M' Fs :=
 have eg:=h.eg
 have em:=h.em
 have lc:=h.lc
 have hvl : ∀ k,M.vl.ownBlock=some k->gm+1<=k:=fun k hk=>(h.mkr.lo.lt k hk).1
 {eg:=h.eg,em:=h.em,lc:=h.lc
  res:=(hc.block g (heap_lt h.res) (by omega) (by omega) (fun e=>by have:=hvl g e.symm;omega)).trans h.res
  mkr:=hm
  gr:=⟨hc.os.trans h.gr.os,hc.tape.trans h.gr.tape,hc.output.trans h.gr.output,Nat.le_trans h.gr.size hc.size,fun k hk hn=>(hc.block k (Nat.lt_of_lt_of_le hk h.gr.size) (fun e=>hn (by rw [e])) (by omega) (fun e=>by have:=hvl k e.symm;omega)).trans (h.gr.block k hk hn)⟩
  fns:=by
   rw [hc.gf]
   exact h.fns.keep (fun b hb hlt=>⟨hc.block b hlt (by have:=hb.1;omega) (by have:=hb.1;omega) hb.2.1,hb.1,fun e=>hb.2.1 (hc.vl b e.symm hlt).symm,by rw [hc.gb];exact hb.2.2⟩) hc.size }
theorem SrcF.locals {w9:World} {v:Value} {ps:List Bt} (h:SrcF w wx gc gm g M Fs) (hg:wx.grownBy w9 none) (ho:w9.ownsRow wx.heap.size 9 1 v ps.length (strs ps)) (hok : ∀ p∈ps,okN p) (hn:ps.length<=2) :
  SrcF w ((w9.setCell ⟨gm,3,none⟩ v).setCell ⟨gm,4,none⟩ (.int .i64 7)) gc gm g { M with vl:=v,ls:=ps,bud:=7 } Fs:=by
 have eg:=h.eg
 have em:=h.em
 have lc:=h.lc
 have hlt:=heap_lt h.mkr.row
 have s1:=grownBy_set w9 gm 3 v
 have s2:=grownBy_set (w9.setCell ⟨gm,3,none⟩ v) gm 4 (.int .i64 7)
 have s12:=grownBy_trans s1 s2
 have hs:=hg.size
 have kp : ∀ b,b<wx.heap.size->b≠gm->((w9.setCell ⟨gm,3,none⟩ v).setCell ⟨gm,4,none⟩ (.int .i64 7)).heap[b]?=wx.heap[b]?:=fun b hb hne=>(s12.block b (by omega) (by simp;exact hne)).trans (hg.block b hb (by simp))
 have own2 : ∀ {e k n:Nat} {u:Value} {l:List Value},wx.ownsRow (gm+1) e k u n l->((w9.setCell ⟨gm,3,none⟩ v).setCell ⟨gm,4,none⟩ (.int .i64 7)).ownsRow (gm+1) e k u n l:=fun h1=>own_same h1 (fun q hq=>kp q (h1.lt q hq).2 (by have:=(h1.lt q hq).1;omega))
 exact
 {eg:=h.eg,em:=h.em,lc:=h.lc
  res:=(kp g (heap_lt h.res) (by omega)).trans h.res
  mkr:={ h.mkr with
   cod:=h.mkr.cod.keep fun k hk=>kp k (by have:=h.mkr.cod.lt;omega) (by omega)
   row:=heap_setCell_same _ gm 4 _ _ _ (heap_setCell_same _ gm 3 _ _ _ ((hg.block gm hlt (by simp)).trans h.mkr.row))
   gl:=own2 h.mkr.gl
   fn:=own2 h.mkr.fn
   lo:=own_base (own_same ho (fun q hq=>s12.block q (ho.lt q hq).2 (by simp;have:=(ho.lt q hq).1;omega))) (by omega)
   lok:=hok
   ln:=by show ps.length<=10;omega }
  gr:=grown_set1 (p:=⟨gm,4,none⟩) (grown_set1 (p:=⟨gm,3,none⟩) ⟨hg.os.trans h.gr.os,hg.tape.trans h.gr.tape,hg.output.trans h.gr.output,Nat.le_trans h.gr.size hg.size,fun k hk hn=>(hg.block k (Nat.lt_of_lt_of_le hk h.gr.size) (by simp)).trans (h.gr.block k hk hn)⟩ (by show w.heap.size<=gm;omega)) (by show w.heap.size<=gm;omega)
  fns:=h.fns.keep (fun b hb hlt=>⟨kp b hlt (by have:=hb.1;omega),hb.1,fun e=>by have:=(ho.lt b e.symm).1;omega,hb.2.2⟩) (by simp [World.setCell];omega) }
theorem SrcF.body {bf cf i c:Nat} {f:Fr} {F:Fn} {S:Sf} {a:Option Addr} (h:SrcF w wx gc gm g M Fs) (hvb:M.vb=.slice (some ⟨bf,0,none⟩) M.fs.length cf) (hf:M.fs[i]?=some f) (hF:Fs[i]?=some F)
  (hs:StsAt wx (PB gm M) S (.slice a S.len c)) (h1:S.wf) (h2:S.cst<=9100) (h3:S.nst<=3) (h4:S.hgt<=3) :
  SrcF w (wx.setCell ⟨bf,i * 4+3,none⟩ (.slice a S.len c)) gc gm g { M with fs:=M.fs.set i { f with ba:=a,bn:=S.len,bc:=c } } (Fs.set i { F with bd:=S }):=by
 have eg:=h.eg
 have em:=h.em
 have lc:=h.lc
 have hfn:=h.mkr.fn
 rw [hvb] at hfn
 have hbf:=hfn.lt bf rfl
 have hst:=(hfn.stored (i * 4+3) (.slice a S.len c))
 rw [frc_set _ _ _ _ _ _ hf] at hst
 have hset:=grownBy_set wx bf (i * 4+3) (.slice a S.len c)
 have hlen:(M.fs.set i { f with ba:=a,bn:=S.len,bc:=c }).length=M.fs.length:=by simp
 have kp : ∀ b,b≠bf->(wx.setCell ⟨bf,i * 4+3,none⟩ (.slice a S.len c)).heap[b]?=wx.heap[b]?:=fun b hb=>heap_setCell_other wx ⟨bf,i * 4+3,none⟩ b _ hb
 have hne : ∀ {e k n:Nat} {u:Value} {l:List Value},e≠66->wx.ownsRow (gm+1) e k u n l->(wx.setCell ⟨bf,i * 4+3,none⟩ (.slice a S.len c)).ownsRow (gm+1) e k u n l:=fun he h1=>own_same h1 (fun q hq=>kp q (fun e=>own_ne h1 hfn he q hq (by rw [e];rfl)))
 have hsz:wx.heap.size<=(wx.setCell ⟨bf,i * 4+3,none⟩ (.slice a S.len c)).heap.size:=by simp [World.setCell]
 have hP : ∀ b,PB gm M b->b<wx.heap.size->(wx.setCell ⟨bf,i * 4+3,none⟩ (.slice a S.len c)).heap[b]?=wx.heap[b]?/\PB gm { M with fs:=M.fs.set i { f with ba:=a,bn:=S.len,bc:=c } } b:=fun b hb _=>⟨kp b (fun e=>hb.2.2 (by rw [hvb,e];rfl)),hb⟩
 obtain⟨F',hF',hat⟩:=h.fns.get hf
 rw [hF] at hF'
 injection hF' with hF'
 subst hF'
 exact
 {eg:=h.eg,em:=h.em,lc:=h.lc
  res:=(kp g (by omega)).trans h.res
  mkr:={ h.mkr with
   cod:=h.mkr.cod.keep fun k hk=>kp k (by omega)
   row:=(kp gm (by omega)).trans h.mkr.row
   gl:=hne (by decide) h.mkr.gl
   fn:=by
    show World.ownsRow _ (gm+1) 66 4 M.vb (M.fs.set i _).length _
    rw [hlen,hvb]
    exact hst.1
   lo:=hne (by decide) h.mkr.lo
   fok:=by
    intro x hx
    have:=List.mem_or_eq_of_mem_set hx
    rcases this with hx | hx
    ·exact h.mkr.fok x hx
    ·subst hx;exact h.mkr.fok f (List.mem_of_getElem? hf)
   fn1:=by show 1<=(M.fs.set i _).length;rw [hlen];exact h.mkr.fn1
   fn2:=by show (M.fs.set i _).length<=4;rw [hlen];exact h.mkr.fn2 }
  gr:=grown_set1 (p:=⟨bf,i * 4+3,none⟩) h.gr (by show w.heap.size<=bf;omega)
  fns:=(h.fns.keep hP hsz).set (by
   obtain⟨a1,a2,a3,a4,a5,a6,a7,a8,_⟩:=hat
   exact⟨a1,a2,a3,a4,a5,a6.keep hP hsz,a7,hs.keep hP hsz,h1,h2,h3,h4⟩) i }
end
def SrcPost (gc:Nat) (w:World) (e:Ending) (w':World):Prop :=
 ∃ (M:Mk) (Fs:List Fn),e=.returned (.agg #[M.va,M.vb])/\Cod w' gc/\w.grownBy w' (some gc)/\w'.ownsRow w.heap.size 62 2 M.va M.gs.length (glc M.gs)/\w'.ownsRow w.heap.size 66 4 M.vb M.fs.length (frc M.fs)/\FnsAt w' (fun b=>w.heap.size<=b) M.fs Fs /\
  (∀ x∈M.gs,okN x.1/\0<=x.2/\x.2<=5)/\M.gs.length<=4/\(∀ f∈M.fs,okN f.nm/\f.pn<=2)/\1<=M.fs.length/\M.fs.length<=4
theorem SrcF.fin {w wx:World} {gc gm g:Nat} {M:Mk} {Fs:List Fn} (h:SrcF w wx gc gm g M Fs) : ∀ W,W=(wx.setCell ⟨g,0,none⟩ M.va).setCell ⟨g,1,none⟩ M.vb ->
  W.cell? ⟨g,0,none⟩=some M.va/\W.cell? ⟨g,1,none⟩=some M.vb/\Hid (SrcPost gc w (.returned (.agg #[M.va,M.vb])) W):=fun W hW=>by
 subst hW
 have eg:=h.eg
 have em:=h.em
 have lc:=h.lc
 have hr:=heap_setCell_same _ g 1 _ _ M.vb (heap_setCell_same _ g 0 _ _ M.va h.res)
 have s12:=grownBy_trans (grownBy_set wx g 0 M.va) (grownBy_set (wx.setCell ⟨g,0,none⟩ M.va) g 1 M.vb)
 have kp : ∀ b,b<wx.heap.size->b≠g->((wx.setCell ⟨g,0,none⟩ M.va).setCell ⟨g,1,none⟩ M.vb).heap[b]?=wx.heap[b]?:=fun b hb hne=>s12.block b hb (by simp;exact hne)
 refine⟨cell_of_row _ g 0 _ _ _ hr,cell_of_row _ g 1 _ _ _ hr,Lib.hid ⟨M,Fs,rfl,?_,?_,?_,?_,?_,h.mkr.gok,h.mkr.gn,h.mkr.fok,h.mkr.fn1,h.mkr.fn2⟩⟩
 ·exact h.mkr.cod.keep fun k hk=>kp k (by have:=h.mkr.cod.lt;omega) (by omega)
 ·exact grown_set1 (p:=⟨g,1,none⟩) (grown_set1 (p:=⟨g,0,none⟩) h.gr (by show w.heap.size<=g;omega)) (by show w.heap.size<=g;omega)
 ·exact own_base (own_same h.mkr.gl (fun q hq=>kp q (h.mkr.gl.lt q hq).2 (by have:=(h.mkr.gl.lt q hq).1;omega))) (by omega)
 ·exact own_base (own_same h.mkr.fn (fun q hq=>kp q (h.mkr.fn.lt q hq).2 (by have:=(h.mkr.fn.lt q hq).1;omega))) (by omega)
 ·exact h.fns.keep (fun b hb hlt=>⟨kp b hlt (by have:=hb.1;omega),by have:=hb.1;omega⟩) s12.size
end Go.Proofs.YtpcdinelpfbpfaaDoor
namespace Go.Proofs.YtpcdinelpfbpfaaDoor
open Go.ChangeShapes Go.WideShapes Go.ChangeAt Go.RowKit
set_option linter.unusedVariables false
set_option linter.unusedSimpArgs false

theorem st_cat (x y:Bt):st x++st y=st (x++y):=by apply ByteArray.ext;simp [ByteArray.data_append]
set_option maxRecDepth 100000 in
set_option maxHeartbeats 16000000 in
theorem Source_any (gc:Nat) (w:World) (h:Cod w gc):Calls Tryd.prog 12 #[.pointer (some ⟨gc,0,none⟩)] w (SrcPost gc w):=by
 have hl:=h.lt
 have HCD:=Lib.hid h
 obtain⟨i0,HI⟩:=info_of Tryd.infoGlob
 obtain⟨i1,HI1⟩:=info_of Tryd.infoStr
 obtain⟨i2,HI2⟩:=info_of Tryd.infoFunc
 obtain⟨i3,HI3⟩:=info_of Tryd.infoStmt
 have HST : ∀ W,W=(w.alloc zso).alloc (grow gc (.slice none 0 0))->Hid (SrcG w W gc (w.heap.size+1) w.heap.size (.slice none 0 0) []):=fun W hW=>by
  subst hW
  have h1:=below_alloc w zso
  have h2:=below_alloc (w.alloc zso) (grow gc (.slice none 0 0))
  exact Lib.hid ⟨rfl,rfl,hl,(h2.block w.heap.size (by simp)).trans (heap_alloc_new w _),(h.below h1 hl).below h2 (by simp;omega),by
   have:=heap_alloc_new (w.alloc zso) (grow gc (.slice none 0 0))
   simpa using this,World.ownsRow_nil _ _ _ _,by simp,grownBy_trans (grownBy_of_below h1 _) (grownBy_of_below h2 _)⟩
 clear h
 go_enter Tryd.func12,Tryd.ntmps12
 go_upto_region 2 with fail
 obtain⟨w1,hw1⟩ : ∃ W,(w.alloc zso).alloc (grow gc (.slice none 0 0))=W:=⟨_,rfl⟩
 have HX:=HST w1 hw1.symm
 rw [hw1]
 obtain⟨gm,hgm⟩ : ∃ x,w.heap.size+1=x:=⟨_,rfl⟩
 obtain⟨g,hg⟩ : ∃ x,w.heap.size=x:=⟨_,rfl⟩
 rw [hgm,hg] at HX
 (try rw [hgm])
 (try rw [hg])
 clear HST hw1 hgm hg
 go_wp2_with fail
 refine(Next_any gc 3 (by omega) _ HX.out.cod).mono ?_
 rintro e w2 ⟨k0,rfl,x0,x1,hcod,hg⟩
 have HX2:=Lib.hid (HX.out.grown hg hcod)
 have x2:k0<3:=by omega
 clear hcod hg HX x1
 clear w1
 obtain⟨k0,rfl⟩:=Int.eq_ofNat_of_zero_le x0
 clear x0
 go_upto_block 0 with fail
 go_wp2_with fail
 go_loopw [4] (fun v4 wr => ∃ (k:Nat) (va:Value) (gs:List (Bt×Int)),v4=.int .i64 k/\Hid (gs.length+k<=2/\SrcG w wr gc gm g va gs)) (fun v4 _=>(intOf v4).toNat)
 case atStart=>exact⟨k0,.slice none 0 0,[],rfl,Lib.hid ⟨by simp;omega,HX2.out⟩⟩
 case round =>
  clear HX2
  obtain⟨k,va,gs,rfl,HR⟩:=hrel
  by_cases hk0:k=0
  ·subst hk0
   have HX:=Lib.hid HR.out.2
   have HN:=Lib.hid HR.out.1
   clear HR
   go_wp2_with fail
   refine(Next_any gc 3 (by omega) _ HX.out.cod).mono ?_
   rintro e w3 ⟨k1,rfl,x0,x1,hcod,hg⟩
   have HX3:=Lib.hid (HX.out.grown hg hcod)
   have x3:k1<3:=by omega
   clear hcod hg HX x1
   clear wr
   obtain⟨k1,rfl⟩:=Int.eq_ofNat_of_zero_le x0
   clear x0
   go_upto_block 2 with fail
   go_wp2_with fail
   go_loopw [5] (fun v5 wr => ∃ (k:Nat) (va:Value) (gs:List (Bt×Int)),v5=.int .i64 k/\Hid (gs.length+k<=4/\SrcG w wr gc gm g va gs)) (fun v5 _=>(intOf v5).toNat)
   case atStart=>exact⟨k1,va,gs,rfl,Lib.hid ⟨by have:=HN.out;omega,HX3.out⟩⟩
   case round =>
    clear HX3 HN
    clear va gs
    obtain⟨k,va,gs,rfl,HR⟩:=hrel
    by_cases hk0:k=0
    ·subst hk0
     have HX:=Lib.hid HR.out.2
     have HN:=Lib.hid HR.out.1
     clear HR
     have hrow:=HX.out.row
     have c2:=cell_of_row _ _ 2 _ _ _ hrow
     have f2:=frozen_of_row _ gm 2 _ _ hrow
     have jl:=heap_lt hrow
     have hmain:=HX.out.main HN.out
     rw [World.setCell_alloc_past _ gm 2 _ jl] at hmain
     have HMN:=Lib.hid hmain
     clear hmain hrow
     go_upto_region 11 with fail
     obtain⟨wF,hwF⟩ : ∃ W,(wr.setCell ⟨gm,2,none⟩ (.slice (some ⟨wr.heap.size,0,none⟩) 1 1)).alloc (.cells #[.string (st [109,97,105,110]),.int .i64 0,.slice none 0 0,.slice none 0 0] 66)=W:=⟨_,rfl⟩
     rw [hwF] at HMN
     (try rw [show ((wr.setCell ⟨gm,2,none⟩ (.slice (some ⟨wr.heap.size,0,none⟩) 1 1)).alloc (.cells #[.string { data := #[109,97,105,110] },.int .i64 0,.slice none 0 0,.slice none 0 0] 66))=wF from hwF])
     (try rw [hwF])
     obtain⟨M0,hM0⟩ : ∃ M0:Mk,(⟨va,.slice (some ⟨wr.heap.size,0,none⟩) 1 1,.slice none 0 0,gs,[⟨[109,97,105,110],none,0,0,none,0,0⟩],[],0⟩:Mk)=M0:=⟨_,rfl⟩
     have HM0:Hid (M0.fs.length=1/\M0.vl=.slice none 0 0/\M0.ls=[]/\M0.bud=0):=Lib.hid (by subst hM0;exact⟨rfl,rfl,rfl,rfl⟩)
     rw [hM0] at HMN
     clear hM0 hwF c2 f2 jl HX HN
     obtain⟨gq,hgq⟩ : ∃ x,wr.heap.size=x:=⟨_,rfl⟩
     (try rw [hgq])
     clear hgq
     clear wr
     go_wp2_with fail
     refine(Next_any gc 4 (by omega) _ HMN.out.mkr.cod).mono ?_
     rintro e w4 ⟨k2,rfl,x0,x1,hcod,hg⟩
     have HX4:=Lib.hid (HMN.out.grown hg hcod)
     have x4:k2<4:=by omega
     clear hcod hg HMN x1
     clear wF
     obtain⟨k2,rfl⟩:=Int.eq_ofNat_of_zero_le x0
     clear x0
     go_upto_block 4 with fail
     go_wp2_with fail
     go_loopw [6] (fun v6 wr => ∃ (k:Nat) (M:Mk) (Fs:List Fn),v6=.int .i64 k/\Hid (M.fs.length+k<=4/\M.vl=.slice none 0 0/\M.ls=[]/\M.bud=0/\SrcF w wr gc gm g M Fs)) (fun v6 _=>(intOf v6).toNat)
     case atStart=>exact⟨k2,M0,_,rfl,Lib.hid ⟨by have:=HM0.out.1;omega,HM0.out.2.1,HM0.out.2.2.1,HM0.out.2.2.2,HX4.out⟩⟩
     case round =>
      clear HX4 HM0
      clear va gs M0
      obtain⟨k,M,Fs,rfl,HR⟩:=hrel
      by_cases hk0:k=0
      ·subst hk0
       have HX:=Lib.hid HR.out.2.2.2.2
       have HM1:=Lib.hid (And.intro HR.out.2.2.2.2.mkr.fn1 HR.out.2.2.2.2.mkr.fn2)
       clear HR
       (try rw [show ((0:Nat):Int)=0 from rfl])
       go_upto_block 8 with fail
       go_wp2_with fail
       obtain⟨n,hn⟩ : ∃ n,M.fs.length=n:=⟨_,rfl⟩
       rw [hn] at HM1
       go_loopw [9] (fun v9 wr => ∃ (i:Nat) (M:Mk) (Fs:List Fn),v9=.int .i64 i/\i<=n/\Hid (M.fs.length=n/\SrcF w wr gc gm g M Fs)) (fun v9 _=>n - (intOf v9).toNat)
       case atStart=>exact⟨0,M,Fs,rfl,by omega,Lib.hid ⟨hn,HX.out⟩⟩
       case round =>
        clear HX hn
        clear M Fs
        obtain⟨i,M,Fs,rfl,hi,HR⟩:=hrel
        have hsrc:=HR.out.2
        have hrow:=hsrc.mkr.row
        have hn4:=HM1.out.2
        obtain⟨bf,cf,hvb,hfc1,hfc2,hbf1,hbf2,hfr⟩:=FrsAt.of_own hsrc.mkr.fn hsrc.mkr.fn1
        rw [HR.out.1] at hvb hfc1
        have HVB:=Lib.hid hvb
        have HC2:Hid (∀ W:World,W.heap[gm]?=wr.heap[gm]?->W.cell? ⟨gm,2,none⟩=some (.slice (some ⟨bf,0,none⟩) n cf)):=Lib.hid (fun W hW=>by rw [<- HVB.out];exact cell_of_row _ _ 2 _ _ _ (hW.trans hrow))
        have c2:=HC2.out wr rfl
        have HFR:=Lib.hid hfr
        clear hvb hrow hsrc hbf1 hbf2 hfr
        by_cases hlt:i<n
        ·obtain⟨f,hf⟩ : ∃ f,M.fs[i]?=some f:=⟨_,List.getElem?_eq_getElem (by rw [HR.out.1];exact hlt)⟩
         obtain⟨F,hF,hat⟩:=HR.out.2.fns.get hf
         have HF:=Lib.hid (And.intro hf hF)
         have HAT:=Lib.hid hat
         obtain⟨a1,a2,a3,a4,a5,a6,a7,a8,_⟩:=hat
         obtain⟨p0,p1,p2,p3⟩:=HFR.out i f hf
         have hpn:=(HR.out.2.mkr.fok f (List.mem_of_getElem? hf)).2
         have hpl:(strs F.ps).length=f.pn * 1:=by simp [strs];exact a2.symm
         have HPL:=Lib.hid hpl
         have HP5:=Lib.hid a5
         have HCE:=Lib.hid a6.cells
         have HOC:Hid (∀ u∈strs F.ps,u.oneCell'=true):=Lib.hid (by intro u hu;simp [strs] at hu;obtain⟨x,_,rfl⟩:=hu;rfl)
         have HA2:=Lib.hid a2
         have HA7:=Lib.hid a7
         have hpm:f.pc<=9223372036854775807:=by have:=a4;unfold maxLen at this;omega
         clear hf hF a1 a2 a4 a5 a6 a7 a8 p0 p1 p3 hpl
         have jg:=heap_lt HR.out.2.mkr.row
         have HRW:=Lib.hid HR.out.2.mkr.row
         go_upto_region 24 with(at_builtin;refine wpList_append_src rfl _ _ _ rfl wr.heap.size 9 i1 _ 1 16 Tryd.underlying27 HI1.out.1 HI1.out.2.1 HI1.out.2.2.1 HI1.out.2.2.2 rfl (by omega) _ 0 [] rfl (World.ownsRow_nil _ _ _ _) _ _ _ (strs F.ps) rfl a3 HP5.out HPL.out HCE.out HOC.out (by unfold maxLen;omega) (by omega) (Nat.le_refl _) ?_;intro v' w9 hown9 hgrow9;obtain⟨a9,c9,rfl,_⟩:=Cells.of_own hown9;have hr9:=(hgrow9.block gm jg (show some gm≠(Value.slice none 0 0).ownBlock from fun e=>nomatch e)).trans HRW.out;have k3:=cell_of_row _ _ 3 _ _ _ hr9;have k3f:=frozen_of_row _ gm 3 _ _ hr9;have k3j:=heap_lt hr9;have k4:=cell_of_row _ _ 4 _ _ _ hr9;have k4f:=frozen_of_row _ gm 4 _ _ hr9;have HO9:=Lib.hid hown9;have HG9:=Lib.hid hgrow9;have HR9:=Lib.hid hr9;clear hown9 hgrow9 hr9)
         have hloc:=HR.out.2.locals (v:=.slice a9 f.pn c9) (ps:=F.ps) HG9.out (by
          have:=HO9.out
          rw [Nat.zero_add,List.nil_append] at this
          rw [<- HA2.out]
          exact this) HA7.out (by rw [<- HA2.out];exact hpn)
         have HS:=Lib.hid hloc
         clear hloc
         have HGB:Hid (gm<bf):=Lib.hid (by
          have:=(HR.out.2.mkr.fn.lt bf (by rw [HVB.out];rfl)).1
          omega)
         go_upto_region 25 with fail
         obtain⟨wS,hwS⟩ : ∃ W,(w9.setCell ⟨gm,3,none⟩ (.slice a9 f.pn c9)).setCell ⟨gm,4,none⟩ (.int .i64 7)=W:=⟨_,rfl⟩
         rw [hwS] at HS ⊢
         have HC3:Hid (∀ W:World,W.heap[gm]?=wS.heap[gm]?->W.cell? ⟨gm,2,none⟩=some (.slice (some ⟨bf,0,none⟩) n cf)):=Lib.hid (fun W hW=>by rw [<- HVB.out];exact cell_of_row _ _ 2 _ _ _ (hW.trans HS.out.mkr.row))
         clear hwS k3 k3f k3j k4 k4f c2 jg a3
         refine wp_region_held_drew (S:=(fun w'=>w'.cell? ⟨gm,2,none⟩=some (.slice (some ⟨bf,0,none⟩) n cf))) (by kernel_rfl) (HC3.out _ rfl) (fun hHeld=>?_)
         refine tkH 0 143 ?_
         refine tkH 1 144 ?_
         refine tkH 2 145 ?_
         refine tkH 3 146 ?_
         refine tkH 4 147 ?_
         refine tkH 5 148 ?_
         refine tkH 6 149 ?_
         refine tkH 7 150 ?_
         refine rdH 8 fun K hK=>?_
         go_simp
         refine(Next_any gc 4 (by omega) _ HS.out.mkr.cod.drew).mono ?_
         rintro e wT ⟨x,rfl,x0,x1,hcod,hg0⟩
         have x4:x<4:=by omega
         have hg:=grownBy_trans (grownBy_drewN wS 1 (some gc)) hg0
         have HT:=Lib.hid (HS.out.grown hg hcod)
         have HVT:Hid (wT.heap[gm]?=wS.heap[gm]?):=Lib.hid (HT.out.mkr.row.trans HS.out.mkr.row.symm)
         refine goH hK (HC3.out _ HVT.out) fun hHeld=>?_
         clear hK K hg0 hg hcod x1
         have hwz:IntKind.i64.wrap (1+x)=1+x:=by unfold IntKind.wrap;simp [IntKind.signed,IntKind.bits];omega
         refine tkH 9 152 ?_
         have hcall:=(maker_all gc gm 2 (by omega)).2 _ wT (1+x) (by omega) (by omega) HT.out.mkr (show (0:Int)<=7 by omega) (by show ((F.ps.length:Nat):Int)+7<=9;have:=HA2.out;omega)
         have HCL:=Lib.hid hcall
         clear hcall
         refine rdH 10 fun K hK=>?_
         go_simp
         refine HCL.out.mono ?_
         rintro e wU ⟨S,sl,xs,M3,rfl,hown,hSf,hch,hmk,hb0,hb9,hw,hcst,hnst,hhgt⟩
         have HU:=Lib.hid (HT.out.step hch hmk)
         have hvb3:M3.vb=.slice (some ⟨bf,0,none⟩) M3.fs.length cf:=by rw [hch.gb,hch.gf];show M.vb=.slice _ M.fs.length _;rw [HVB.out,HR.out.1]
         have HVU:Hid (wU.cell? ⟨gm,2,none⟩=some (.slice (some ⟨bf,0,none⟩) n cf)):=Lib.hid (by
          have:=cell_of_row _ _ 2 _ _ _ hmk.row
          rw [this,hvb3,hch.gf]
          show some (Value.slice _ M.fs.length _)=_
          rw [HR.out.1])
         have hsts:=sts_of_own hown hSf hmk
         have HST:Hid (StsAt wU (PB gm M3) S sl):=Lib.hid (hsts.keep (fun b hb _=>⟨rfl,by have:=hb.1;have:=heap_lt HT.out.mkr.row;omega,hb.2,fun e=>by
          have h1:=hb.1
          have h2:=(HT.out.mkr.fn.lt b (by show M.vb.ownBlock=some b;have:M3.vb=M.vb:=hch.gb;rw [<- this];exact e.symm)).2
          omega⟩) (Nat.le_refl _))
         obtain⟨asl,csl,_,rfl,-⟩:=hsts
         have hf3:M3.fs[i]?=some f:=by rw [hch.gf];exact HF.out.1
         have hfn3:=hmk.fn
         have hrowb : ∃ cur,wU.heap[bf]?=some (.cells cur 66 (0,0)):=by
          rcases hfn3.2 with⟨h1,_⟩ | ⟨gx,cap,cur,h1,_,hgx,_⟩
          ·rw [hvb3] at h1;cases h1
          ·rw [hvb3] at h1
           injection h1 with h1
           injection h1 with h1
           injection h1 with h1
           subst h1
           exact⟨cur,hgx⟩
         obtain⟨cur,hcur⟩:=hrowb
         have jb:=heap_lt hcur
         have fb:=frozen_of_row _ bf (i * 4+3) _ _ hcur
         have hcb:wU.cell? ⟨bf,i * 4+3,none⟩=some (.slice f.ba f.bn f.bc):=by
          obtain⟨b',cap',e1,_,_,_,_,hfr⟩:=FrsAt.of_own hfn3 hmk.fn1
          rw [hvb3] at e1
          injection e1 with e1
          injection e1 with e1
          injection e1 with e1
          subst e1
          exact(hfr i f hf3).2.2.2
         have HBD:=Lib.hid (HU.out.body hvb3 hf3 HF.out.2 HST.out hw (by have:(S.cst:Int)<=1300 * (7 - M3.bud):=hcst;omega) hnst hhgt)
         have HL3:Hid (M3.fs.length=n):=Lib.hid (by rw [hch.gf];exact HR.out.1)
         refine goH hK HVU.out fun hHeld=>?_
         clear hK K hown hSf hch hmk hb0 hb9 hw hcst hnst hhgt hvb3 hf3 hfn3 hcur
         have hi0:(0:Int)<=(i:Int):=by omega
         have hi1:(i:Int)<(n:Int):=by omega
         refine tkH 11 154 ?_
         refine tkH 12 155 ?_
         refine rdH 13 fun K hK=>?_
         go_simp
         refine goH hK ((World.cell?_of_block (heap_setCell_other wU ⟨bf,i * 4+3,none⟩ gm _ (by have:=HGB.out;show gm≠bf;omega))).trans HVU.out) fun hHeld=>?_
         clear hK K
         refine wpAnyH_done (by kernel_rfl) ?_ _
         go_wp2_with fail
         go_roundw
         case rel=>exact⟨i+1,{ M3 with fs:=M3.fs.set i { f with ba:=asl,bn:=S.len,bc:=csl } },Fs.set i { F with bd:=S },by go_num,by omega,Lib.hid ⟨by show (M3.fs.set i _).length=n;rw [List.length_set];exact HL3.out,HBD.out⟩⟩
         case measure=>simp [intOf];omega
        ·obtain rfl:i=n:=by omega
         have HF:=Lib.hid HR.out.2
         have hva : ∃ aa ca,M.va=.slice aa M.gs.length ca:=by
          obtain⟨aa,ca,e,_⟩:=Cells.of_own HR.out.2.mkr.gl
          exact⟨aa,ca,e⟩
         obtain⟨aa,ca,hva⟩:=hva
         have c1:=cell_of_row _ _ 1 _ _ _ HR.out.2.mkr.row
         have c1':wr.cell? ⟨gm,1,none⟩=some (.slice aa M.gs.length ca):=by rw [<- hva];exact c1
         have hfin:=HR.out.2.fin
         rw [hva,HVB.out] at hfin
         have r0:=cell_of_row _ _ 0 _ _ _ HR.out.2.res
         have r1:=cell_of_row _ _ 1 _ _ _ HR.out.2.res
         have f0:=frozen_of_row _ g 0 _ _ HR.out.2.res
         have f1:=frozen_of_row _ g 1 _ _ HR.out.2.res
         have jl:=heap_lt HR.out.2.res
         have HFN:=Lib.hid hfin
         clear hfin hva c1 HR HF
         go_wp2_with fail
         obtain⟨q0,q1,HP⟩:=HFN.out _ rfl
         refine bodyPost_ret (v:=.agg #[.slice aa M.gs.length ca,.slice (some ⟨bf,0,none⟩) i cf]) (by simp [results,Tryd.results12,go_sem,q0,q1]) rfl ?_
         exact HP.out
      ·have hfl:M.fs.length<=3:=by have:=HR.out.1;omega
       have hkp:0<k:=by omega
       have HKP:=Lib.hid hkp
       have hk3:k<=4:=by have:=HR.out.1;omega
       clear hk0
       have hsrc:=HR.out.2.2.2.2
       have hrow:=hsrc.mkr.row
       obtain⟨bf,cf,hvb,hfc1,hfc2,hbf1,hbf2,hfr⟩:=FrsAt.of_own hsrc.mkr.fn hsrc.mkr.fn1
       rw [hvb] at hrow
       have c2:=cell_of_row _ _ 2 _ _ _ hrow
       have HVB:=Lib.hid hvb
       clear hfr hvb hrow hsrc hbf1 hbf2
       go_wp2_with fail
       refine(Number_any M.fs.length (by omega) _).mono ?_
       rintro e wN ⟨rfl,hb⟩
       have HXN:=Lib.hid (HR.out.2.2.2.2.below hb)
       have HLM:=Lib.hid (And.intro HR.out.1 (And.intro HR.out.2.1 (And.intro HR.out.2.2.1 HR.out.2.2.2.1)))
       clear hb c2 HR
       clear wr
       have hst:=st_cat [102] (Lib.decDigits M.fs.length)
       have hdl:=dec_len19 (n:=M.fs.length) (by omega)
       have HPS:=Lib.hid (PSt.start (nm:=102::Lib.decDigits M.fs.length) HXN.out)
       go_upto_region 15 with fail
       obtain⟨wA,hwA⟩ : ∃ W,wN.alloc (prow (102::Lib.decDigits M.fs.length) none 0 0)=W:=⟨_,rfl⟩
       obtain⟨g7,hg7⟩ : ∃ x,wN.heap.size=x:=⟨_,rfl⟩
       rw [hwA,hg7] at HPS
       (try rw [show wN.alloc (.cells #[.string (st (102::Lib.decDigits M.fs.length)),.int .i64 0,.slice none 0 0,.slice none 0 0] 66)=wA from hwA])
       (try rw [hg7])
       have HNM:Hid (okN (102::Lib.decDigits M.fs.length)):=Lib.hid (okN_num 102 (.inr (.inl rfl)) _ (by omega))
       obtain⟨nm,hnm⟩ : ∃ nm,102::Lib.decDigits M.fs.length=nm:=⟨_,rfl⟩
       rw [hnm] at HPS HNM
       (try rw [hnm])
       clear hwA hg7 HXN hst hdl hnm
       clear wN
       go_wp2_with fail
       refine(Next_any gc 3 (by omega) _ HPS.out.src.mkr.cod).mono ?_
       rintro e wB ⟨n0,rfl,x0,x1,hcod,hg⟩
       have HPB:=Lib.hid (HPS.out.grown hg hcod)
       have x3:n0<3:=by omega
       clear hcod hg HPS x1
       clear wA
       obtain⟨n0,rfl⟩:=Int.eq_ofNat_of_zero_le x0
       clear x0
       go_upto_block 6 with fail
       go_wp2_with fail
       go_loopw [8] (fun v8 wr => ∃ (n:Nat) (ps:List Bt) (pa:Option Addr) (pc:Nat),v8=.int .i64 n/\Hid (ps.length+n<=2/\PSt w wr gc gm g M Fs g7 nm pa pc ps)) (fun v8 _=>(intOf v8).toNat)
       case atStart=>exact⟨n0,[],none,0,rfl,Lib.hid ⟨by simp;omega,HPB.out⟩⟩
       case round =>
        clear HPB
        obtain⟨n,ps,pa,pc,rfl,HR⟩:=hrel
        by_cases hn0:n=0
        ·subst hn0
         go_upto_region 19 with fail
         have HRV:Hid (∀ W:World,W.heap[gm]?=wr.heap[gm]?->W.cell? ⟨gm,2,none⟩=some (.slice (some ⟨bf,0,none⟩) M.fs.length cf)):=Lib.hid (fun W hW=>by rw [<- HVB.out];exact cell_of_row _ _ 2 _ _ _ (hW.trans HR.out.2.src.mkr.row))
         refine wp_region_held_drew (S:=(fun w'=>w'.heap[g7]?=some (prow nm pa ps.length pc))) (by kernel_rfl) HR.out.2.row (fun hHeld=>?_)
         refine tkH 0 105 ?_
         refine tkH 1 106 ?_
         refine tkH 2 107 ?_
         refine tkH 3 108 ?_
         refine tkH 4 109 ?_
         refine wpAnyH_takeD (i:=6) (d:=some 111) (v:=(.agg #[.string (st nm),.int .i64 0,.slice pa ps.length pc,.slice none 0 0])) rfl (by kernel_rfl) (by kernel_rfl) (by kernel_rfl) (by kernel_rfl) (fun _ _ _ h=>h) (Or.inl ⟨by kernel_rfl,?_⟩) (by assumption) ?_
         ·(intro w hSw;obtain⟨p0,p1,p2,p3⟩:=cells4 hSw;go_simp;try with_reducible rfl)
         (try simp only [Act.put,List.setIfInBounds_toArray,List.set_cons_zero,List.set_cons_succ])
         have HX0:=Lib.hid (HR.out.2.grown (grownBy_drewN wr 1 (some gc)) HR.out.2.src.mkr.cod.drew)
         have HV0:Hid (wr.drew.heap[gm]?=wr.heap[gm]?):=Lib.hid rfl
         obtain⟨w0,hw0⟩ : ∃ wx,wr.drew=wx:=⟨_,rfl⟩
         rw [show wr.drewN 1=w0 from hw0] at HX0
         rw [hw0] at HV0 hHeld ⊢
         clear hw0
         refine wpAnyH_ready (rs:=[5,7]) (by kernel_rfl) (by simp) ?_
         refine AllReadyH.cons rfl (fun K hK=>?_) (AllReadyH.cons rfl (fun K hK=>?_) AllReadyH.nil)
         ·have c2:=HRV.out _ HV0.out
          go_simp
          refine goH hK HX0.out.row fun hHeld=>?_
          clear hK K c2
          refine rdH 7 fun K hK=>?_
          go_simp
          have hb:=below_alloc w0 (.cells #[.string (st nm),.int .i64 0,.slice pa ps.length pc,.slice none 0 0] 66)
          have HNW:=Lib.hid (heap_alloc_new w0 (.cells #[.string (st nm),.int .i64 0,.slice pa ps.length pc,.slice none 0 0] 66))
          have HX1:=Lib.hid (HX0.out.below hb)
          have HV1:=Lib.hid ((hb.block gm (heap_lt HX0.out.src.mkr.row)).trans HV0.out)
          refine goH hK HX1.out.row fun hHeld=>?_
          clear hK K hb
          obtain⟨w1,hw⟩ : ∃ wx,w0.alloc (.cells #[.string (st nm),.int .i64 0,.slice pa ps.length pc,.slice none 0 0] 66)=wx:=⟨_,rfl⟩
          obtain⟨gb,hgb⟩ : ∃ gb,w0.heap.size=gb:=⟨_,rfl⟩
          rw [hw] at HNW HX1 HV1 hHeld
          (try rw [hw])
          rw [hgb] at HNW
          (try rw [hgb])
          have HEQ:=Lib.hid hw
          clear hw hgb
          have hvb:M.vb=.slice (some ⟨bf,0,none⟩) M.fs.length cf:=HVB.out
          have HOW:Hid (w1.ownsRow (gm+1) 66 4 (.slice (some ⟨bf,0,none⟩) M.fs.length cf) M.fs.length (frc M.fs)):=Lib.hid (by rw [<- HVB.out];exact HX1.out.src.mkr.fn)
          have hsz:gm+1<=w1.heap.size:=heap_lt HX1.out.src.mkr.row
          clear hvb
          refine rdH 8 fun K hK=>?_
          refine step_append_lies _ (by rfl) _ _ _ (by rfl) (gm+1) 66 i2 _ 4 72 Tryd.underlying30 HI2.out.1 HI2.out.2.1 HI2.out.2.2.1 HI2.out.2.2.2 rfl (by omega) _ _ _ (by rfl) HOW.out ⟨gb,0,none⟩ 1 1 [.string (st nm),.int .i64 0,.slice pa ps.length pc,.slice none 0 0] (by rfl) (by rfl) (World.news_of_block (cs := #[.string (st nm),.int .i64 0,.slice pa ps.length pc,.slice none 0 0]) (t:=66) (fr:=(0,0)) HNW.out) (by simp [Value.oneCell']) (by omega) (by unfold maxLen;omega) (by omega) hsz _ rfl ?_
          intro g9 c9 wF hownF hgF horF hltF
          have hrF:=(hgF.block gm (heap_lt HX1.out.src.mkr.row) (fun e=>by have:=(HOW.out.lt gm e.symm).1;omega)).trans HX1.out.src.mkr.row
          have hr7:=(hgF.block g7 (heap_lt HX1.out.row) (fun e=>by have:=HX1.out.rows g7 (.inr (.inl (by rw [HVB.out];exact e.symm)));omega)).trans HX1.out.row
          have HPU:Hid (SrcF w (wF.setCell ⟨gm,2,none⟩ (.slice (some ⟨g9,0,none⟩) (M.fs.length+1) c9)) gc gm g { M with vb:=.slice (some ⟨g9,0,none⟩) (M.fs.length+1) c9,fs:=M.fs++[⟨nm,pa,ps.length,pc,none,0,0⟩] } (Fs++[⟨nm,ps,.nil⟩])):=Lib.hid (by
           rw [<- HEQ.out] at hgF horF
           have hx:=HX0.out.src.push (f:=⟨nm,pa,ps.length,pc,none,0,0⟩) (F:=⟨nm,ps,.nil⟩) HLM.out.2.1 ⟨HNM.out,by have:=HR.out.1;show ps.length<=2;omega⟩ (by omega) HX0.out.fn (by rw [HVB.out];exact hgF) (by rw [HVB.out];exact horF) hownF
           exact hx)
          refine goH hK hr7 fun hHeld=>?_
          clear hK K hownF hgF horF hltF
          refine tkH 9 114 ?_
          refine tkH 10 115 ?_
          refine tkH 11 116 ?_
          have f2:=frozen_of_row _ gm 2 _ _ hrF
          have k2':=cell_of_row _ _ 2 _ _ _ hrF
          have jl:=heap_lt hrF
          refine rdH 12 fun K hK=>?_
          go_simp
          refine goH hK ((heap_setCell_other wF ⟨gm,2,none⟩ g7 _ (by have:=HX1.out.lt;show g7≠gm;omega)).trans hr7) fun hHeld=>?_
          clear hK K
          refine wpAnyH_done (by kernel_rfl) ?_ _
          go_wp2_with fail
          go_roundw
          case rel=>exact⟨k - 1,{ M with vb:=.slice (some ⟨g9,0,none⟩) (M.fs.length+1) c9,fs:=M.fs++[⟨nm,pa,ps.length,pc,none,0,0⟩] },Fs++[⟨nm,ps,.nil⟩],by go_num,Lib.hid ⟨by show (M.fs++[_]).length+(k - 1)<=4;have h0:=HKP.out;have h1:=HLM.out.1;simp;omega,HLM.out.2.1,HLM.out.2.2.1,HLM.out.2.2.2,HPU.out⟩⟩
          case measure=>have h0:=HKP.out;simp [intOf];omega
         ·go_simp
          have hb:=below_alloc w0 (.cells #[.string (st nm),.int .i64 0,.slice pa ps.length pc,.slice none 0 0] 66)
          have HNW:=Lib.hid (heap_alloc_new w0 (.cells #[.string (st nm),.int .i64 0,.slice pa ps.length pc,.slice none 0 0] 66))
          have HX1:=Lib.hid (HX0.out.below hb)
          have HV1:=Lib.hid ((hb.block gm (heap_lt HX0.out.src.mkr.row)).trans HV0.out)
          refine goH hK HX1.out.row fun hHeld=>?_
          clear hK K hb
          obtain⟨w1,hw⟩ : ∃ wx,w0.alloc (.cells #[.string (st nm),.int .i64 0,.slice pa ps.length pc,.slice none 0 0] 66)=wx:=⟨_,rfl⟩
          obtain⟨gb,hgb⟩ : ∃ gb,w0.heap.size=gb:=⟨_,rfl⟩
          rw [hw] at HNW HX1 HV1 hHeld
          (try rw [hw])
          rw [hgb] at HNW
          (try rw [hgb])
          have HEQ:=Lib.hid hw
          clear hw hgb
          refine rdH 5 fun K hK=>?_
          have c2:=HRV.out _ HV1.out
          go_simp
          refine goH hK HX1.out.row fun hHeld=>?_
          clear hK K c2
          have hvb:M.vb=.slice (some ⟨bf,0,none⟩) M.fs.length cf:=HVB.out
          have HOW:Hid (w1.ownsRow (gm+1) 66 4 (.slice (some ⟨bf,0,none⟩) M.fs.length cf) M.fs.length (frc M.fs)):=Lib.hid (by rw [<- HVB.out];exact HX1.out.src.mkr.fn)
          have hsz:gm+1<=w1.heap.size:=heap_lt HX1.out.src.mkr.row
          clear hvb
          refine rdH 8 fun K hK=>?_
          refine step_append_lies _ (by rfl) _ _ _ (by rfl) (gm+1) 66 i2 _ 4 72 Tryd.underlying30 HI2.out.1 HI2.out.2.1 HI2.out.2.2.1 HI2.out.2.2.2 rfl (by omega) _ _ _ (by rfl) HOW.out ⟨gb,0,none⟩ 1 1 [.string (st nm),.int .i64 0,.slice pa ps.length pc,.slice none 0 0] (by rfl) (by rfl) (World.news_of_block (cs := #[.string (st nm),.int .i64 0,.slice pa ps.length pc,.slice none 0 0]) (t:=66) (fr:=(0,0)) HNW.out) (by simp [Value.oneCell']) (by omega) (by unfold maxLen;omega) (by omega) hsz _ rfl ?_
          intro g9 c9 wF hownF hgF horF hltF
          have hrF:=(hgF.block gm (heap_lt HX1.out.src.mkr.row) (fun e=>by have:=(HOW.out.lt gm e.symm).1;omega)).trans HX1.out.src.mkr.row
          have hr7:=(hgF.block g7 (heap_lt HX1.out.row) (fun e=>by have:=HX1.out.rows g7 (.inr (.inl (by rw [HVB.out];exact e.symm)));omega)).trans HX1.out.row
          have HPU:Hid (SrcF w (wF.setCell ⟨gm,2,none⟩ (.slice (some ⟨g9,0,none⟩) (M.fs.length+1) c9)) gc gm g { M with vb:=.slice (some ⟨g9,0,none⟩) (M.fs.length+1) c9,fs:=M.fs++[⟨nm,pa,ps.length,pc,none,0,0⟩] } (Fs++[⟨nm,ps,.nil⟩])):=Lib.hid (by
           rw [<- HEQ.out] at hgF horF
           have hx:=HX0.out.src.push (f:=⟨nm,pa,ps.length,pc,none,0,0⟩) (F:=⟨nm,ps,.nil⟩) HLM.out.2.1 ⟨HNM.out,by have:=HR.out.1;show ps.length<=2;omega⟩ (by omega) HX0.out.fn (by rw [HVB.out];exact hgF) (by rw [HVB.out];exact horF) hownF
           exact hx)
          refine goH hK hr7 fun hHeld=>?_
          clear hK K hownF hgF horF hltF
          refine tkH 9 114 ?_
          refine tkH 10 115 ?_
          refine tkH 11 116 ?_
          have f2:=frozen_of_row _ gm 2 _ _ hrF
          have k2':=cell_of_row _ _ 2 _ _ _ hrF
          have jl:=heap_lt hrF
          refine rdH 12 fun K hK=>?_
          go_simp
          refine goH hK ((heap_setCell_other wF ⟨gm,2,none⟩ g7 _ (by have:=HX1.out.lt;show g7≠gm;omega)).trans hr7) fun hHeld=>?_
          clear hK K
          refine wpAnyH_done (by kernel_rfl) ?_ _
          go_wp2_with fail
          go_roundw
          case rel=>exact⟨k - 1,{ M with vb:=.slice (some ⟨g9,0,none⟩) (M.fs.length+1) c9,fs:=M.fs++[⟨nm,pa,ps.length,pc,none,0,0⟩] },Fs++[⟨nm,ps,.nil⟩],by go_num,Lib.hid ⟨by show (M.fs++[_]).length+(k - 1)<=4;have h0:=HKP.out;have h1:=HLM.out.1;simp;omega,HLM.out.2.1,HLM.out.2.2.1,HLM.out.2.2.2,HPU.out⟩⟩
          case measure=>have h0:=HKP.out;simp [intOf];omega
        ·have hgl:ps.length<=1:=by have:=HR.out.1;omega
         have hnp:0<n:=by omega
         have HNP:=Lib.hid hnp
         have hn3:n<=4:=by have:=HR.out.1;omega
         clear hn0
         go_upto_block 7 with fail
         go_cut [] from 95 to 104 (fun wx => ∃ (ps2:List Bt) (pa2:Option Addr) (pc2:Nat),Hid (ps2.length=ps.length+1/\PSt w wx gc gm g M Fs g7 nm pa2 pc2 ps2))
         case first =>
          go_upto_region 18 with fail
          refine wp_region_held_drew (S:=(fun _=>True)) (by kernel_rfl) trivial (fun hHeld=>?_)
          refine tkH 0 95 ?_
          refine tkH 2 97 ?_
          have HX0:=Lib.hid (HR.out.2.grown (grownBy_drewN wr 1 (some gc)) HR.out.2.src.mkr.cod.drew)
          obtain⟨w0,hw0⟩ : ∃ wx,wr.drew=wx:=⟨_,rfl⟩
          rw [show wr.drewN 1=w0 from hw0] at HX0
          rw [hw0]
          clear hw0
          refine wpAnyH_ready (rs:=[1,3]) (by kernel_rfl) (by simp) ?_
          refine AllReadyH.cons rfl (fun K hK=>?_) (AllReadyH.cons rfl (fun K hK=>?_) AllReadyH.nil)
          ·have p2:=cell_of_row _ _ 2 _ _ _ HX0.out.row
           go_simp
           refine goH hK trivial fun hHeld=>?_
           clear hK K p2
           refine rdH 3 fun K hK=>?_
           ·have p2:=cell_of_row _ _ 2 _ _ _ HX0.out.row
            go_simp
            refine goH hK trivial fun hHeld=>?_
            clear hK K p2
            refine tkH 4 99 ?_
            refine rdH 5 fun K hK=>?_
            ·go_simp
             refine(Number_any ps.length (by omega) _).mono ?_
             rintro e w1 ⟨rfl,hb⟩
             have HX1:=Lib.hid (HX0.out.below hb)
             refine goH hK trivial fun hHeld=>?_
             clear hK K hb
             refine wpAnyH_takeD (i:=6) (d:=some 101) (v:=.string (st (112::Lib.decDigits ps.length))) rfl (by kernel_rfl) (by kernel_rfl) (by kernel_rfl) (by kernel_rfl) (fun _ _ _ h=>h) (Or.inl ⟨by kernel_rfl,?_⟩) (by assumption) ?_
             ·(intro w hSw;have hst:=st_cat [112] (Lib.decDigits ps.length);have hdl:=dec_len19 (n:=ps.length) (by omega);go_simp;(try omega);try with_reducible rfl)
             (try simp only [Act.put,List.setIfInBounds_toArray,List.set_cons_zero,List.set_cons_succ])
             refine rdH 7 fun K hK=>?_
             ·go_simp
              have hb:=below_alloc w1 (.cells #[.string (st (112::Lib.decDigits ps.length))] 9)
              have HNW:=Lib.hid (heap_alloc_new w1 (.cells #[.string (st (112::Lib.decDigits ps.length))] 9))
              have HXK:=HX1
              have HX2:=Lib.hid (HX1.out.below hb)
              refine goH hK trivial fun hHeld=>?_
              clear hK K hb
              obtain⟨w2,hw⟩ : ∃ wx,w1.alloc (.cells #[.string (st (112::Lib.decDigits ps.length))] 9)=wx:=⟨_,rfl⟩
              obtain⟨gb,hgb⟩ : ∃ gb,w1.heap.size=gb:=⟨_,rfl⟩
              rw [hw] at HNW HX2
              (try rw [hw])
              rw [hgb] at HNW
              (try rw [hgb])
              have HEQ:=Lib.hid hw
              have hsz:g7+1<=w2.heap.size:=heap_lt HX2.out.row
              clear hw hgb
              refine rdH 8 fun K hK=>?_
              refine step_append_lies _ (by rfl) _ _ _ (by rfl) (g7+1) 9 i1 _ 1 16 Tryd.underlying27 HI1.out.1 HI1.out.2.1 HI1.out.2.2.1 HI1.out.2.2.2 rfl (by omega) _ _ _ (by rfl) HX2.out.own ⟨gb,0,none⟩ 1 1 [.string (st (112::Lib.decDigits ps.length))] (by rfl) (by rfl) (World.news_of_block (cs := #[.string (st (112::Lib.decDigits ps.length))]) (t:=9) (fr:=(0,0)) HNW.out) (by simp [Value.oneCell']) (by omega) (by unfold maxLen;omega) (by omega) hsz _ rfl ?_
              intro g9 c9 wF hownF hgF _ hltF
              have hrF:=(hgF.block g7 (heap_lt HX2.out.row) (fun e=>by have:=(HX2.out.own.lt g7 e.symm).1;omega)).trans HX2.out.row
              rw [<- HEQ.out] at hgF
              have HPS:=Lib.hid (HXK.out.push (okN_num 112 (.inr (.inr rfl)) ps.length (by omega)) hgF hownF)
              refine goH hK trivial fun hHeld=>?_
              clear hK K hownF hgF hltF
              refine tkH 9 104 ?_
              have f2:=frozen_of_row _ g7 2 _ _ hrF
              have k2':=cell_of_row _ _ 2 _ _ _ hrF
              have jl:=heap_lt hrF
              refine rdH 10 fun K hK=>?_
              go_simp
              refine goH hK trivial fun hHeld=>?_
              clear hK K
              refine wpAnyH_done (by kernel_rfl) ?_ _
              go_wp2_with fail
              go_meet
              exact⟨_,_,_,Lib.hid ⟨by simp,HPS.out⟩⟩
          ·have p2:=cell_of_row _ _ 2 _ _ _ HX0.out.row
           go_simp
           refine goH hK trivial fun hHeld=>?_
           clear hK K p2
           refine tkH 4 99 ?_
           refine wpAnyH_ready (rs:=[1,5]) (by kernel_rfl) (by simp) ?_
           refine AllReadyH.cons rfl (fun K hK=>?_) (AllReadyH.cons rfl (fun K hK=>?_) AllReadyH.nil)
           ·have p2:=cell_of_row _ _ 2 _ _ _ HX0.out.row
            go_simp
            refine goH hK trivial fun hHeld=>?_
            clear hK K p2
            refine rdH 5 fun K hK=>?_
            ·go_simp
             refine(Number_any ps.length (by omega) _).mono ?_
             rintro e w3 ⟨rfl,hb⟩
             have HX3:=Lib.hid (HX0.out.below hb)
             refine goH hK trivial fun hHeld=>?_
             clear hK K hb
             refine wpAnyH_takeD (i:=6) (d:=some 101) (v:=.string (st (112::Lib.decDigits ps.length))) rfl (by kernel_rfl) (by kernel_rfl) (by kernel_rfl) (by kernel_rfl) (fun _ _ _ h=>h) (Or.inl ⟨by kernel_rfl,?_⟩) (by assumption) ?_
             ·(intro w hSw;have hst:=st_cat [112] (Lib.decDigits ps.length);have hdl:=dec_len19 (n:=ps.length) (by omega);go_simp;(try omega);try with_reducible rfl)
             (try simp only [Act.put,List.setIfInBounds_toArray,List.set_cons_zero,List.set_cons_succ])
             refine rdH 7 fun K hK=>?_
             ·go_simp
              have hb:=below_alloc w3 (.cells #[.string (st (112::Lib.decDigits ps.length))] 9)
              have HNW:=Lib.hid (heap_alloc_new w3 (.cells #[.string (st (112::Lib.decDigits ps.length))] 9))
              have HXK:=HX3
              have HX4:=Lib.hid (HX3.out.below hb)
              refine goH hK trivial fun hHeld=>?_
              clear hK K hb
              obtain⟨w4,hw⟩ : ∃ wx,w3.alloc (.cells #[.string (st (112::Lib.decDigits ps.length))] 9)=wx:=⟨_,rfl⟩
              obtain⟨gb,hgb⟩ : ∃ gb,w3.heap.size=gb:=⟨_,rfl⟩
              rw [hw] at HNW HX4
              (try rw [hw])
              rw [hgb] at HNW
              (try rw [hgb])
              have HEQ:=Lib.hid hw
              have hsz:g7+1<=w4.heap.size:=heap_lt HX4.out.row
              clear hw hgb
              refine rdH 8 fun K hK=>?_
              refine step_append_lies _ (by rfl) _ _ _ (by rfl) (g7+1) 9 i1 _ 1 16 Tryd.underlying27 HI1.out.1 HI1.out.2.1 HI1.out.2.2.1 HI1.out.2.2.2 rfl (by omega) _ _ _ (by rfl) HX4.out.own ⟨gb,0,none⟩ 1 1 [.string (st (112::Lib.decDigits ps.length))] (by rfl) (by rfl) (World.news_of_block (cs := #[.string (st (112::Lib.decDigits ps.length))]) (t:=9) (fr:=(0,0)) HNW.out) (by simp [Value.oneCell']) (by omega) (by unfold maxLen;omega) (by omega) hsz _ rfl ?_
              intro g9 c9 wF hownF hgF _ hltF
              have hrF:=(hgF.block g7 (heap_lt HX4.out.row) (fun e=>by have:=(HX4.out.own.lt g7 e.symm).1;omega)).trans HX4.out.row
              rw [<- HEQ.out] at hgF
              have HPS:=Lib.hid (HXK.out.push (okN_num 112 (.inr (.inr rfl)) ps.length (by omega)) hgF hownF)
              refine goH hK trivial fun hHeld=>?_
              clear hK K hownF hgF hltF
              refine tkH 9 104 ?_
              have f2:=frozen_of_row _ g7 2 _ _ hrF
              have k2':=cell_of_row _ _ 2 _ _ _ hrF
              have jl:=heap_lt hrF
              refine rdH 10 fun K hK=>?_
              go_simp
              refine goH hK trivial fun hHeld=>?_
              clear hK K
              refine wpAnyH_done (by kernel_rfl) ?_ _
              go_wp2_with fail
              go_meet
              exact⟨_,_,_,Lib.hid ⟨by simp,HPS.out⟩⟩
           ·go_simp
            refine(Number_any ps.length (by omega) _).mono ?_
            rintro e w5 ⟨rfl,hb⟩
            have HX5:=Lib.hid (HX0.out.below hb)
            refine goH hK trivial fun hHeld=>?_
            clear hK K hb
            refine wpAnyH_takeD (i:=6) (d:=some 101) (v:=.string (st (112::Lib.decDigits ps.length))) rfl (by kernel_rfl) (by kernel_rfl) (by kernel_rfl) (by kernel_rfl) (fun _ _ _ h=>h) (Or.inl ⟨by kernel_rfl,?_⟩) (by assumption) ?_
            ·(intro w hSw;have hst:=st_cat [112] (Lib.decDigits ps.length);have hdl:=dec_len19 (n:=ps.length) (by omega);go_simp;(try omega);try with_reducible rfl)
            (try simp only [Act.put,List.setIfInBounds_toArray,List.set_cons_zero,List.set_cons_succ])
            refine wpAnyH_ready (rs:=[1,7]) (by kernel_rfl) (by simp) ?_
            refine AllReadyH.cons rfl (fun K hK=>?_) (AllReadyH.cons rfl (fun K hK=>?_) AllReadyH.nil)
            ·have p2:=cell_of_row _ _ 2 _ _ _ HX5.out.row
             go_simp
             refine goH hK trivial fun hHeld=>?_
             clear hK K p2
             refine rdH 7 fun K hK=>?_
             ·go_simp
              have hb:=below_alloc w5 (.cells #[.string (st (112::Lib.decDigits ps.length))] 9)
              have HNW:=Lib.hid (heap_alloc_new w5 (.cells #[.string (st (112::Lib.decDigits ps.length))] 9))
              have HXK:=HX5
              have HX6:=Lib.hid (HX5.out.below hb)
              refine goH hK trivial fun hHeld=>?_
              clear hK K hb
              obtain⟨w6,hw⟩ : ∃ wx,w5.alloc (.cells #[.string (st (112::Lib.decDigits ps.length))] 9)=wx:=⟨_,rfl⟩
              obtain⟨gb,hgb⟩ : ∃ gb,w5.heap.size=gb:=⟨_,rfl⟩
              rw [hw] at HNW HX6
              (try rw [hw])
              rw [hgb] at HNW
              (try rw [hgb])
              have HEQ:=Lib.hid hw
              have hsz:g7+1<=w6.heap.size:=heap_lt HX6.out.row
              clear hw hgb
              refine rdH 8 fun K hK=>?_
              refine step_append_lies _ (by rfl) _ _ _ (by rfl) (g7+1) 9 i1 _ 1 16 Tryd.underlying27 HI1.out.1 HI1.out.2.1 HI1.out.2.2.1 HI1.out.2.2.2 rfl (by omega) _ _ _ (by rfl) HX6.out.own ⟨gb,0,none⟩ 1 1 [.string (st (112::Lib.decDigits ps.length))] (by rfl) (by rfl) (World.news_of_block (cs := #[.string (st (112::Lib.decDigits ps.length))]) (t:=9) (fr:=(0,0)) HNW.out) (by simp [Value.oneCell']) (by omega) (by unfold maxLen;omega) (by omega) hsz _ rfl ?_
              intro g9 c9 wF hownF hgF _ hltF
              have hrF:=(hgF.block g7 (heap_lt HX6.out.row) (fun e=>by have:=(HX6.out.own.lt g7 e.symm).1;omega)).trans HX6.out.row
              rw [<- HEQ.out] at hgF
              have HPS:=Lib.hid (HXK.out.push (okN_num 112 (.inr (.inr rfl)) ps.length (by omega)) hgF hownF)
              refine goH hK trivial fun hHeld=>?_
              clear hK K hownF hgF hltF
              refine tkH 9 104 ?_
              have f2:=frozen_of_row _ g7 2 _ _ hrF
              have k2':=cell_of_row _ _ 2 _ _ _ hrF
              have jl:=heap_lt hrF
              refine rdH 10 fun K hK=>?_
              go_simp
              refine goH hK trivial fun hHeld=>?_
              clear hK K
              refine wpAnyH_done (by kernel_rfl) ?_ _
              go_wp2_with fail
              go_meet
              exact⟨_,_,_,Lib.hid ⟨by simp,HPS.out⟩⟩
            ·go_simp
             have hb:=below_alloc w5 (.cells #[.string (st (112::Lib.decDigits ps.length))] 9)
             have HNW:=Lib.hid (heap_alloc_new w5 (.cells #[.string (st (112::Lib.decDigits ps.length))] 9))
             have HXK:=HX5
             have HX7:=Lib.hid (HX5.out.below hb)
             refine goH hK trivial fun hHeld=>?_
             clear hK K hb
             obtain⟨w7,hw⟩ : ∃ wx,w5.alloc (.cells #[.string (st (112::Lib.decDigits ps.length))] 9)=wx:=⟨_,rfl⟩
             obtain⟨gb,hgb⟩ : ∃ gb,w5.heap.size=gb:=⟨_,rfl⟩
             rw [hw] at HNW HX7
             (try rw [hw])
             rw [hgb] at HNW
             (try rw [hgb])
             have HEQ:=Lib.hid hw
             have hsz:g7+1<=w7.heap.size:=heap_lt HX7.out.row
             clear hw hgb
             refine rdH 1 fun K hK=>?_
             have p2:=cell_of_row _ _ 2 _ _ _ HX7.out.row
             go_simp
             refine goH hK trivial fun hHeld=>?_
             clear hK K p2
             refine rdH 8 fun K hK=>?_
             refine step_append_lies _ (by rfl) _ _ _ (by rfl) (g7+1) 9 i1 _ 1 16 Tryd.underlying27 HI1.out.1 HI1.out.2.1 HI1.out.2.2.1 HI1.out.2.2.2 rfl (by omega) _ _ _ (by rfl) HX7.out.own ⟨gb,0,none⟩ 1 1 [.string (st (112::Lib.decDigits ps.length))] (by rfl) (by rfl) (World.news_of_block (cs := #[.string (st (112::Lib.decDigits ps.length))]) (t:=9) (fr:=(0,0)) HNW.out) (by simp [Value.oneCell']) (by omega) (by unfold maxLen;omega) (by omega) hsz _ rfl ?_
             intro g9 c9 wF hownF hgF _ hltF
             have hrF:=(hgF.block g7 (heap_lt HX7.out.row) (fun e=>by have:=(HX7.out.own.lt g7 e.symm).1;omega)).trans HX7.out.row
             rw [<- HEQ.out] at hgF
             have HPS:=Lib.hid (HXK.out.push (okN_num 112 (.inr (.inr rfl)) ps.length (by omega)) hgF hownF)
             refine goH hK trivial fun hHeld=>?_
             clear hK K hownF hgF hltF
             refine tkH 9 104 ?_
             have f2:=frozen_of_row _ g7 2 _ _ hrF
             have k2':=cell_of_row _ _ 2 _ _ _ hrF
             have jl:=heap_lt hrF
             refine rdH 10 fun K hK=>?_
             go_simp
             refine goH hK trivial fun hHeld=>?_
             clear hK K
             refine wpAnyH_done (by kernel_rfl) ?_ _
             go_wp2_with fail
             go_meet
             exact⟨_,_,_,Lib.hid ⟨by simp,HPS.out⟩⟩
         case rest =>
          obtain⟨ps2,pa2,pc2,HR2⟩:=hcut
          go_wp2_with fail
          go_roundw
          case rel=>exact⟨n - 1,ps2,pa2,pc2,by go_num,Lib.hid ⟨by have h0:=HNP.out;have h1:=HR.out.1;have h2:=HR2.out.1;omega,HR2.out.2⟩⟩
          case measure=>have h0:=HNP.out;simp [intOf];omega
    ·have hgl:gs.length<=3:=by have:=HR.out.1;omega
     have hkp:0<k:=by omega
     have HKP:=Lib.hid hkp
     have hk3:k<=4:=by have:=HR.out.1;omega
     clear hk0
     obtain⟨aa,ca,hva,_⟩:=Cells.of_own HR.out.2.gl
     subst hva
     go_upto_block 3 with fail
     go_cut [] from 45 to 67 (fun wx => ∃ (va2:Value) (gs2:List (Bt×Int)),Hid (gs2.length=gs.length+1/\SrcG w wx gc gm g va2 gs2))
     case first =>
      go_upto_region 9 with fail
      refine wp_region_held_drew (S:=(fun _=>True)) (by kernel_rfl) trivial (fun hHeld=>?_)
      refine tkH 0 45 ?_
      refine tkH 1 46 ?_
      refine tkH 2 47 ?_
      refine tkH 3 48 ?_
      refine tkH 4 49 ?_
      refine tkH 6 51 ?_
      refine tkH 7 52 ?_
      refine tkH 8 53 ?_
      refine tkH 9 54 ?_
      refine tkH 14 59 ?_
      have HX0:=Lib.hid (HR.out.2.grown (grownBy_drewN wr 1 (some gc)) HR.out.2.cod.drew)
      obtain⟨w0,hw0⟩ : ∃ wx,wr.drew=wx:=⟨_,rfl⟩
      rw [show wr.drewN 1=w0 from hw0] at HX0
      rw [hw0]
      clear hw0
      refine wpAnyH_ready (rs:=[5,10]) (by kernel_rfl) (by simp) ?_
      refine AllReadyH.cons rfl (fun K hK=>?_) (AllReadyH.cons rfl (fun K hK=>?_) AllReadyH.nil)
      ·have c1:=cell_of_row _ _ 1 _ _ _ HX0.out.row
       go_simp
       refine goH hK trivial fun hHeld=>?_
       clear hK K c1
       refine rdH 10 fun K hK=>?_
       ·have c1:=cell_of_row _ _ 1 _ _ _ HX0.out.row
        go_simp
        refine goH hK trivial fun hHeld=>?_
        clear hK K c1
        refine tkH 11 56 ?_
        refine rdH 12 fun K hK=>?_
        ·go_simp
         refine(Number_any gs.length (by omega) _).mono ?_
         rintro e w8 ⟨rfl,hb⟩
         have HX8:=Lib.hid (HX0.out.below hb)
         refine goH hK trivial fun hHeld=>?_
         clear hK K hb
         refine wpAnyH_takeD (i:=13) (d:=some 58) (v:=.string (st (103::Lib.decDigits gs.length))) rfl (by kernel_rfl) (by kernel_rfl) (by kernel_rfl) (by kernel_rfl) (fun _ _ _ h=>h) (Or.inl ⟨by kernel_rfl,?_⟩) (by assumption) ?_
         ·(intro w hSw;have hst:=st_cat [103] (Lib.decDigits gs.length);have hdl:=dec_len19 (n:=gs.length) (by omega);go_simp;(try omega);try with_reducible rfl)
         (try simp only [Act.put,List.setIfInBounds_toArray,List.set_cons_zero,List.set_cons_succ])
         refine rdH 15 fun K hK=>?_
         ·go_simp
          refine(Next_any gc 5 (by omega) _ HX8.out.cod).mono ?_
          rintro e w9 ⟨x,rfl,x0,x1,hcod,hg⟩
          have x2:x<5:=by omega
          have HX9:=Lib.hid (HX8.out.grown hg hcod)
          refine goH hK trivial fun hHeld=>?_
          clear hK K hcod hg x1
          have hwz:IntKind.i64.wrap (1+x)=1+x:=by unfold IntKind.wrap;simp [IntKind.signed,IntKind.bits];omega
          refine tkH 16 61 ?_
          refine tkH 17 62 ?_
          obtain⟨z,hz⟩ : ∃ z,1+x=z:=⟨_,rfl⟩
          (try rw [hz])
          have hz0:0<=z:=by omega
          have hz5:z<=5:=by omega
          clear hz hwz
          refine rdH 18 fun K hK=>?_
          ·go_simp
           have hb:=below_alloc w9 (.cells #[.string (st (103::Lib.decDigits gs.length)),.int .i64 z] 62)
           have HNW:=Lib.hid (heap_alloc_new w9 (.cells #[.string (st (103::Lib.decDigits gs.length)),.int .i64 z] 62))
           have HOB:=Lib.hid (own_same (HX9.out.gl) (fun q hq=>hb.block q (HX9.out.gl.lt q hq).2))
           have HXK:=HX9
           refine goH hK trivial fun hHeld=>?_
           clear hK K hb
           obtain⟨w10,hw⟩ : ∃ wx,w9.alloc (.cells #[.string (st (103::Lib.decDigits gs.length)),.int .i64 z] 62)=wx:=⟨_,rfl⟩
           obtain⟨gb,hgb⟩ : ∃ gb,w9.heap.size=gb:=⟨_,rfl⟩
           rw [hw] at HNW HOB
           (try rw [hw])
           rw [hgb] at HNW
           (try rw [hgb])
           have HEQ:=Lib.hid hw
           have hsz:gm+1<=w10.heap.size:=by have:=HXK.out.row;have:=heap_lt this;rw [<- hw];simp;omega
           have HX10:Hid (w10.heap[gm]?=some (grow gc (.slice aa gs.length ca))):=Lib.hid (by rw [<- hw];exact(Below.heap_alloc _ _ gm (heap_lt HXK.out.row)).trans HXK.out.row)
           clear hw hgb
           refine rdH 19 fun K hK=>?_
           refine step_append_lies _ (by rfl) _ _ _ (by rfl) (gm+1) 62 i0 _ 2 24 Tryd.underlying29 HI.out.1 HI.out.2.1 HI.out.2.2.1 HI.out.2.2.2 rfl (by omega) _ _ _ (by rfl) HOB.out ⟨gb,0,none⟩ 1 1 [.string (st (103::Lib.decDigits gs.length)),.int .i64 z] (by rfl) (by rfl) (World.news_of_block (cs := #[.string (st (103::Lib.decDigits gs.length)),.int .i64 z]) (t:=62) (fr:=(0,0)) HNW.out) (by simp [Value.oneCell']) (by omega) (by unfold maxLen;omega) (by omega) hsz _ rfl ?_
           intro g9 c9 wF hownF hgF _ hltF
           have hrF:=(hgF.block gm (heap_lt HX10.out) (fun e=>by have:=(HOB.out.lt gm e.symm).1;omega)).trans HX10.out
           rw [<- HEQ.out] at hgF
           have HPS:=Lib.hid (HXK.out.push (okN_num 103 (.inl rfl) gs.length (by omega)) hz0 hz5 hgF hownF)
           refine goH hK trivial fun hHeld=>?_
           clear hK K hownF hgF hltF
           refine tkH 20 65 ?_
           refine tkH 21 66 ?_
           refine tkH 22 67 ?_
           have f1:=frozen_of_row _ gm 1 _ _ hrF
           have k1:=cell_of_row _ _ 1 _ _ _ hrF
           have jl:=heap_lt hrF
           refine rdH 23 fun K hK=>?_
           go_simp
           refine goH hK trivial fun hHeld=>?_
           clear hK K
           refine wpAnyH_done (by kernel_rfl) ?_ _
           go_wp2_with fail
           go_meet
           exact⟨_,_,Lib.hid ⟨by simp,HPS.out⟩⟩
      ·have c1:=cell_of_row _ _ 1 _ _ _ HX0.out.row
       go_simp
       refine goH hK trivial fun hHeld=>?_
       clear hK K c1
       refine tkH 11 56 ?_
       refine wpAnyH_ready (rs:=[5,12]) (by kernel_rfl) (by simp) ?_
       refine AllReadyH.cons rfl (fun K hK=>?_) (AllReadyH.cons rfl (fun K hK=>?_) AllReadyH.nil)
       ·have c1:=cell_of_row _ _ 1 _ _ _ HX0.out.row
        go_simp
        refine goH hK trivial fun hHeld=>?_
        clear hK K c1
        refine rdH 12 fun K hK=>?_
        ·go_simp
         refine(Number_any gs.length (by omega) _).mono ?_
         rintro e w11 ⟨rfl,hb⟩
         have HX11:=Lib.hid (HX0.out.below hb)
         refine goH hK trivial fun hHeld=>?_
         clear hK K hb
         refine wpAnyH_takeD (i:=13) (d:=some 58) (v:=.string (st (103::Lib.decDigits gs.length))) rfl (by kernel_rfl) (by kernel_rfl) (by kernel_rfl) (by kernel_rfl) (fun _ _ _ h=>h) (Or.inl ⟨by kernel_rfl,?_⟩) (by assumption) ?_
         ·(intro w hSw;have hst:=st_cat [103] (Lib.decDigits gs.length);have hdl:=dec_len19 (n:=gs.length) (by omega);go_simp;(try omega);try with_reducible rfl)
         (try simp only [Act.put,List.setIfInBounds_toArray,List.set_cons_zero,List.set_cons_succ])
         refine rdH 15 fun K hK=>?_
         ·go_simp
          refine(Next_any gc 5 (by omega) _ HX11.out.cod).mono ?_
          rintro e w12 ⟨x,rfl,x0,x1,hcod,hg⟩
          have x2:x<5:=by omega
          have HX12:=Lib.hid (HX11.out.grown hg hcod)
          refine goH hK trivial fun hHeld=>?_
          clear hK K hcod hg x1
          have hwz:IntKind.i64.wrap (1+x)=1+x:=by unfold IntKind.wrap;simp [IntKind.signed,IntKind.bits];omega
          refine tkH 16 61 ?_
          refine tkH 17 62 ?_
          obtain⟨z,hz⟩ : ∃ z,1+x=z:=⟨_,rfl⟩
          (try rw [hz])
          have hz0:0<=z:=by omega
          have hz5:z<=5:=by omega
          clear hz hwz
          refine rdH 18 fun K hK=>?_
          ·go_simp
           have hb:=below_alloc w12 (.cells #[.string (st (103::Lib.decDigits gs.length)),.int .i64 z] 62)
           have HNW:=Lib.hid (heap_alloc_new w12 (.cells #[.string (st (103::Lib.decDigits gs.length)),.int .i64 z] 62))
           have HOB:=Lib.hid (own_same (HX12.out.gl) (fun q hq=>hb.block q (HX12.out.gl.lt q hq).2))
           have HXK:=HX12
           refine goH hK trivial fun hHeld=>?_
           clear hK K hb
           obtain⟨w13,hw⟩ : ∃ wx,w12.alloc (.cells #[.string (st (103::Lib.decDigits gs.length)),.int .i64 z] 62)=wx:=⟨_,rfl⟩
           obtain⟨gb,hgb⟩ : ∃ gb,w12.heap.size=gb:=⟨_,rfl⟩
           rw [hw] at HNW HOB
           (try rw [hw])
           rw [hgb] at HNW
           (try rw [hgb])
           have HEQ:=Lib.hid hw
           have hsz:gm+1<=w13.heap.size:=by have:=HXK.out.row;have:=heap_lt this;rw [<- hw];simp;omega
           have HX13:Hid (w13.heap[gm]?=some (grow gc (.slice aa gs.length ca))):=Lib.hid (by rw [<- hw];exact(Below.heap_alloc _ _ gm (heap_lt HXK.out.row)).trans HXK.out.row)
           clear hw hgb
           refine rdH 19 fun K hK=>?_
           refine step_append_lies _ (by rfl) _ _ _ (by rfl) (gm+1) 62 i0 _ 2 24 Tryd.underlying29 HI.out.1 HI.out.2.1 HI.out.2.2.1 HI.out.2.2.2 rfl (by omega) _ _ _ (by rfl) HOB.out ⟨gb,0,none⟩ 1 1 [.string (st (103::Lib.decDigits gs.length)),.int .i64 z] (by rfl) (by rfl) (World.news_of_block (cs := #[.string (st (103::Lib.decDigits gs.length)),.int .i64 z]) (t:=62) (fr:=(0,0)) HNW.out) (by simp [Value.oneCell']) (by omega) (by unfold maxLen;omega) (by omega) hsz _ rfl ?_
           intro g9 c9 wF hownF hgF _ hltF
           have hrF:=(hgF.block gm (heap_lt HX13.out) (fun e=>by have:=(HOB.out.lt gm e.symm).1;omega)).trans HX13.out
           rw [<- HEQ.out] at hgF
           have HPS:=Lib.hid (HXK.out.push (okN_num 103 (.inl rfl) gs.length (by omega)) hz0 hz5 hgF hownF)
           refine goH hK trivial fun hHeld=>?_
           clear hK K hownF hgF hltF
           refine tkH 20 65 ?_
           refine tkH 21 66 ?_
           refine tkH 22 67 ?_
           have f1:=frozen_of_row _ gm 1 _ _ hrF
           have k1:=cell_of_row _ _ 1 _ _ _ hrF
           have jl:=heap_lt hrF
           refine rdH 23 fun K hK=>?_
           go_simp
           refine goH hK trivial fun hHeld=>?_
           clear hK K
           refine wpAnyH_done (by kernel_rfl) ?_ _
           go_wp2_with fail
           go_meet
           exact⟨_,_,Lib.hid ⟨by simp,HPS.out⟩⟩
       ·go_simp
        refine(Number_any gs.length (by omega) _).mono ?_
        rintro e w14 ⟨rfl,hb⟩
        have HX14:=Lib.hid (HX0.out.below hb)
        refine goH hK trivial fun hHeld=>?_
        clear hK K hb
        refine wpAnyH_takeD (i:=13) (d:=some 58) (v:=.string (st (103::Lib.decDigits gs.length))) rfl (by kernel_rfl) (by kernel_rfl) (by kernel_rfl) (by kernel_rfl) (fun _ _ _ h=>h) (Or.inl ⟨by kernel_rfl,?_⟩) (by assumption) ?_
        ·(intro w hSw;have hst:=st_cat [103] (Lib.decDigits gs.length);have hdl:=dec_len19 (n:=gs.length) (by omega);go_simp;(try omega);try with_reducible rfl)
        (try simp only [Act.put,List.setIfInBounds_toArray,List.set_cons_zero,List.set_cons_succ])
        refine wpAnyH_ready (rs:=[5,15]) (by kernel_rfl) (by simp) ?_
        refine AllReadyH.cons rfl (fun K hK=>?_) (AllReadyH.cons rfl (fun K hK=>?_) AllReadyH.nil)
        ·have c1:=cell_of_row _ _ 1 _ _ _ HX14.out.row
         go_simp
         refine goH hK trivial fun hHeld=>?_
         clear hK K c1
         refine rdH 15 fun K hK=>?_
         ·go_simp
          refine(Next_any gc 5 (by omega) _ HX14.out.cod).mono ?_
          rintro e w15 ⟨x,rfl,x0,x1,hcod,hg⟩
          have x2:x<5:=by omega
          have HX15:=Lib.hid (HX14.out.grown hg hcod)
          refine goH hK trivial fun hHeld=>?_
          clear hK K hcod hg x1
          have hwz:IntKind.i64.wrap (1+x)=1+x:=by unfold IntKind.wrap;simp [IntKind.signed,IntKind.bits];omega
          refine tkH 16 61 ?_
          refine tkH 17 62 ?_
          obtain⟨z,hz⟩ : ∃ z,1+x=z:=⟨_,rfl⟩
          (try rw [hz])
          have hz0:0<=z:=by omega
          have hz5:z<=5:=by omega
          clear hz hwz
          refine rdH 18 fun K hK=>?_
          ·go_simp
           have hb:=below_alloc w15 (.cells #[.string (st (103::Lib.decDigits gs.length)),.int .i64 z] 62)
           have HNW:=Lib.hid (heap_alloc_new w15 (.cells #[.string (st (103::Lib.decDigits gs.length)),.int .i64 z] 62))
           have HOB:=Lib.hid (own_same (HX15.out.gl) (fun q hq=>hb.block q (HX15.out.gl.lt q hq).2))
           have HXK:=HX15
           refine goH hK trivial fun hHeld=>?_
           clear hK K hb
           obtain⟨w16,hw⟩ : ∃ wx,w15.alloc (.cells #[.string (st (103::Lib.decDigits gs.length)),.int .i64 z] 62)=wx:=⟨_,rfl⟩
           obtain⟨gb,hgb⟩ : ∃ gb,w15.heap.size=gb:=⟨_,rfl⟩
           rw [hw] at HNW HOB
           (try rw [hw])
           rw [hgb] at HNW
           (try rw [hgb])
           have HEQ:=Lib.hid hw
           have hsz:gm+1<=w16.heap.size:=by have:=HXK.out.row;have:=heap_lt this;rw [<- hw];simp;omega
           have HX16:Hid (w16.heap[gm]?=some (grow gc (.slice aa gs.length ca))):=Lib.hid (by rw [<- hw];exact(Below.heap_alloc _ _ gm (heap_lt HXK.out.row)).trans HXK.out.row)
           clear hw hgb
           refine rdH 19 fun K hK=>?_
           refine step_append_lies _ (by rfl) _ _ _ (by rfl) (gm+1) 62 i0 _ 2 24 Tryd.underlying29 HI.out.1 HI.out.2.1 HI.out.2.2.1 HI.out.2.2.2 rfl (by omega) _ _ _ (by rfl) HOB.out ⟨gb,0,none⟩ 1 1 [.string (st (103::Lib.decDigits gs.length)),.int .i64 z] (by rfl) (by rfl) (World.news_of_block (cs := #[.string (st (103::Lib.decDigits gs.length)),.int .i64 z]) (t:=62) (fr:=(0,0)) HNW.out) (by simp [Value.oneCell']) (by omega) (by unfold maxLen;omega) (by omega) hsz _ rfl ?_
           intro g9 c9 wF hownF hgF _ hltF
           have hrF:=(hgF.block gm (heap_lt HX16.out) (fun e=>by have:=(HOB.out.lt gm e.symm).1;omega)).trans HX16.out
           rw [<- HEQ.out] at hgF
           have HPS:=Lib.hid (HXK.out.push (okN_num 103 (.inl rfl) gs.length (by omega)) hz0 hz5 hgF hownF)
           refine goH hK trivial fun hHeld=>?_
           clear hK K hownF hgF hltF
           refine tkH 20 65 ?_
           refine tkH 21 66 ?_
           refine tkH 22 67 ?_
           have f1:=frozen_of_row _ gm 1 _ _ hrF
           have k1:=cell_of_row _ _ 1 _ _ _ hrF
           have jl:=heap_lt hrF
           refine rdH 23 fun K hK=>?_
           go_simp
           refine goH hK trivial fun hHeld=>?_
           clear hK K
           refine wpAnyH_done (by kernel_rfl) ?_ _
           go_wp2_with fail
           go_meet
           exact⟨_,_,Lib.hid ⟨by simp,HPS.out⟩⟩
        ·go_simp
         refine(Next_any gc 5 (by omega) _ HX14.out.cod).mono ?_
         rintro e w17 ⟨x,rfl,x0,x1,hcod,hg⟩
         have x2:x<5:=by omega
         have HX17:=Lib.hid (HX14.out.grown hg hcod)
         refine goH hK trivial fun hHeld=>?_
         clear hK K hcod hg x1
         have hwz:IntKind.i64.wrap (1+x)=1+x:=by unfold IntKind.wrap;simp [IntKind.signed,IntKind.bits];omega
         refine tkH 16 61 ?_
         refine tkH 17 62 ?_
         obtain⟨z,hz⟩ : ∃ z,1+x=z:=⟨_,rfl⟩
         (try rw [hz])
         have hz0:0<=z:=by omega
         have hz5:z<=5:=by omega
         clear hz hwz
         refine wpAnyH_ready (rs:=[5,18]) (by kernel_rfl) (by simp) ?_
         refine AllReadyH.cons rfl (fun K hK=>?_) (AllReadyH.cons rfl (fun K hK=>?_) AllReadyH.nil)
         ·have c1:=cell_of_row _ _ 1 _ _ _ HX17.out.row
          go_simp
          refine goH hK trivial fun hHeld=>?_
          clear hK K c1
          refine rdH 18 fun K hK=>?_
          ·go_simp
           have hb:=below_alloc w17 (.cells #[.string (st (103::Lib.decDigits gs.length)),.int .i64 z] 62)
           have HNW:=Lib.hid (heap_alloc_new w17 (.cells #[.string (st (103::Lib.decDigits gs.length)),.int .i64 z] 62))
           have HOB:=Lib.hid (own_same (HX17.out.gl) (fun q hq=>hb.block q (HX17.out.gl.lt q hq).2))
           have HXK:=HX17
           refine goH hK trivial fun hHeld=>?_
           clear hK K hb
           obtain⟨w18,hw⟩ : ∃ wx,w17.alloc (.cells #[.string (st (103::Lib.decDigits gs.length)),.int .i64 z] 62)=wx:=⟨_,rfl⟩
           obtain⟨gb,hgb⟩ : ∃ gb,w17.heap.size=gb:=⟨_,rfl⟩
           rw [hw] at HNW HOB
           (try rw [hw])
           rw [hgb] at HNW
           (try rw [hgb])
           have HEQ:=Lib.hid hw
           have hsz:gm+1<=w18.heap.size:=by have:=HXK.out.row;have:=heap_lt this;rw [<- hw];simp;omega
           have HX18:Hid (w18.heap[gm]?=some (grow gc (.slice aa gs.length ca))):=Lib.hid (by rw [<- hw];exact(Below.heap_alloc _ _ gm (heap_lt HXK.out.row)).trans HXK.out.row)
           clear hw hgb
           refine rdH 19 fun K hK=>?_
           refine step_append_lies _ (by rfl) _ _ _ (by rfl) (gm+1) 62 i0 _ 2 24 Tryd.underlying29 HI.out.1 HI.out.2.1 HI.out.2.2.1 HI.out.2.2.2 rfl (by omega) _ _ _ (by rfl) HOB.out ⟨gb,0,none⟩ 1 1 [.string (st (103::Lib.decDigits gs.length)),.int .i64 z] (by rfl) (by rfl) (World.news_of_block (cs := #[.string (st (103::Lib.decDigits gs.length)),.int .i64 z]) (t:=62) (fr:=(0,0)) HNW.out) (by simp [Value.oneCell']) (by omega) (by unfold maxLen;omega) (by omega) hsz _ rfl ?_
           intro g9 c9 wF hownF hgF _ hltF
           have hrF:=(hgF.block gm (heap_lt HX18.out) (fun e=>by have:=(HOB.out.lt gm e.symm).1;omega)).trans HX18.out
           rw [<- HEQ.out] at hgF
           have HPS:=Lib.hid (HXK.out.push (okN_num 103 (.inl rfl) gs.length (by omega)) hz0 hz5 hgF hownF)
           refine goH hK trivial fun hHeld=>?_
           clear hK K hownF hgF hltF
           refine tkH 20 65 ?_
           refine tkH 21 66 ?_
           refine tkH 22 67 ?_
           have f1:=frozen_of_row _ gm 1 _ _ hrF
           have k1:=cell_of_row _ _ 1 _ _ _ hrF
           have jl:=heap_lt hrF
           refine rdH 23 fun K hK=>?_
           go_simp
           refine goH hK trivial fun hHeld=>?_
           clear hK K
           refine wpAnyH_done (by kernel_rfl) ?_ _
           go_wp2_with fail
           go_meet
           exact⟨_,_,Lib.hid ⟨by simp,HPS.out⟩⟩
         ·go_simp
          have hb:=below_alloc w17 (.cells #[.string (st (103::Lib.decDigits gs.length)),.int .i64 z] 62)
          have HNW:=Lib.hid (heap_alloc_new w17 (.cells #[.string (st (103::Lib.decDigits gs.length)),.int .i64 z] 62))
          have HOB:=Lib.hid (own_same (HX17.out.gl) (fun q hq=>hb.block q (HX17.out.gl.lt q hq).2))
          have HXK:=HX17
          refine goH hK trivial fun hHeld=>?_
          clear hK K hb
          obtain⟨w19,hw⟩ : ∃ wx,w17.alloc (.cells #[.string (st (103::Lib.decDigits gs.length)),.int .i64 z] 62)=wx:=⟨_,rfl⟩
          obtain⟨gb,hgb⟩ : ∃ gb,w17.heap.size=gb:=⟨_,rfl⟩
          rw [hw] at HNW HOB
          (try rw [hw])
          rw [hgb] at HNW
          (try rw [hgb])
          have HEQ:=Lib.hid hw
          have hsz:gm+1<=w19.heap.size:=by have:=HXK.out.row;have:=heap_lt this;rw [<- hw];simp;omega
          have HX19:Hid (w19.heap[gm]?=some (grow gc (.slice aa gs.length ca))):=Lib.hid (by rw [<- hw];exact(Below.heap_alloc _ _ gm (heap_lt HXK.out.row)).trans HXK.out.row)
          clear hw hgb
          refine rdH 5 fun K hK=>?_
          have c1:=cell_of_row _ _ 1 _ _ _ HX19.out
          go_simp
          refine goH hK trivial fun hHeld=>?_
          clear hK K c1
          refine rdH 19 fun K hK=>?_
          refine step_append_lies _ (by rfl) _ _ _ (by rfl) (gm+1) 62 i0 _ 2 24 Tryd.underlying29 HI.out.1 HI.out.2.1 HI.out.2.2.1 HI.out.2.2.2 rfl (by omega) _ _ _ (by rfl) HOB.out ⟨gb,0,none⟩ 1 1 [.string (st (103::Lib.decDigits gs.length)),.int .i64 z] (by rfl) (by rfl) (World.news_of_block (cs := #[.string (st (103::Lib.decDigits gs.length)),.int .i64 z]) (t:=62) (fr:=(0,0)) HNW.out) (by simp [Value.oneCell']) (by omega) (by unfold maxLen;omega) (by omega) hsz _ rfl ?_
          intro g9 c9 wF hownF hgF _ hltF
          have hrF:=(hgF.block gm (heap_lt HX19.out) (fun e=>by have:=(HOB.out.lt gm e.symm).1;omega)).trans HX19.out
          rw [<- HEQ.out] at hgF
          have HPS:=Lib.hid (HXK.out.push (okN_num 103 (.inl rfl) gs.length (by omega)) hz0 hz5 hgF hownF)
          refine goH hK trivial fun hHeld=>?_
          clear hK K hownF hgF hltF
          refine tkH 20 65 ?_
          refine tkH 21 66 ?_
          refine tkH 22 67 ?_
          have f1:=frozen_of_row _ gm 1 _ _ hrF
          have k1:=cell_of_row _ _ 1 _ _ _ hrF
          have jl:=heap_lt hrF
          refine rdH 23 fun K hK=>?_
          go_simp
          refine goH hK trivial fun hHeld=>?_
          clear hK K
          refine wpAnyH_done (by kernel_rfl) ?_ _
          go_wp2_with fail
          go_meet
          exact⟨_,_,Lib.hid ⟨by simp,HPS.out⟩⟩
     case rest =>
      obtain⟨va2,gs2,HR2⟩:=hcut
      go_wp2_with fail
      go_roundw
      case rel=>exact⟨k - 1,va2,gs2,by go_num,Lib.hid ⟨by have h0:=HKP.out;have h1:=HR.out.1;have h2:=HR2.out.1;omega,HR2.out.2⟩⟩
      case measure=>have h0:=HKP.out;simp [intOf];omega
  ·have hgl:gs.length<=1:=by have:=HR.out.1;omega
   have hkp:0<k:=by omega
   have HKP:=Lib.hid hkp
   have hk3:k<=3:=by have:=HR.out.1;omega
   clear hk0
   obtain⟨aa,ca,hva,_⟩:=Cells.of_own HR.out.2.gl
   subst hva
   go_upto_block 1 with fail
   go_cut [] from 19 to 38 (fun wx => ∃ (va2:Value) (gs2:List (Bt×Int)),Hid (gs2.length=gs.length+1/\SrcG w wx gc gm g va2 gs2))
   case first =>
    go_upto_region 5 with fail
    refine wp_region_held_drew (S:=(fun _=>True)) (by kernel_rfl) trivial (fun hHeld=>?_)
    refine tkH 0 19 ?_
    refine tkH 1 20 ?_
    refine tkH 2 21 ?_
    refine tkH 3 22 ?_
    refine tkH 4 23 ?_
    refine tkH 6 25 ?_
    refine tkH 7 26 ?_
    refine tkH 8 27 ?_
    refine tkH 9 28 ?_
    have HX0:=Lib.hid (HR.out.2.grown (grownBy_drewN wr 1 (some gc)) HR.out.2.cod.drew)
    obtain⟨w0,hw0⟩ : ∃ wx,wr.drew=wx:=⟨_,rfl⟩
    rw [show wr.drewN 1=w0 from hw0] at HX0
    rw [hw0]
    clear hw0
    refine wpAnyH_ready (rs:=[5,10]) (by kernel_rfl) (by simp) ?_
    refine AllReadyH.cons rfl (fun K hK=>?_) (AllReadyH.cons rfl (fun K hK=>?_) AllReadyH.nil)
    ·have c1:=cell_of_row _ _ 1 _ _ _ HX0.out.row
     go_simp
     refine goH hK trivial fun hHeld=>?_
     clear hK K c1
     refine rdH 10 fun K hK=>?_
     ·have c1:=cell_of_row _ _ 1 _ _ _ HX0.out.row
      go_simp
      refine goH hK trivial fun hHeld=>?_
      clear hK K c1
      refine tkH 11 30 ?_
      refine rdH 12 fun K hK=>?_
      ·go_simp
       refine(Number_any gs.length (by omega) _).mono ?_
       rintro e w20 ⟨rfl,hb⟩
       have HX20:=Lib.hid (HX0.out.below hb)
       refine goH hK trivial fun hHeld=>?_
       clear hK K hb
       refine wpAnyH_takeD (i:=13) (d:=some 32) (v:=.string (st (103::Lib.decDigits gs.length))) rfl (by kernel_rfl) (by kernel_rfl) (by kernel_rfl) (by kernel_rfl) (fun _ _ _ h=>h) (Or.inl ⟨by kernel_rfl,?_⟩) (by assumption) ?_
       ·(intro w hSw;have hst:=st_cat [103] (Lib.decDigits gs.length);have hdl:=dec_len19 (n:=gs.length) (by omega);go_simp;(try omega);try with_reducible rfl)
       (try simp only [Act.put,List.setIfInBounds_toArray,List.set_cons_zero,List.set_cons_succ])
       refine wpAnyH_takeD (i:=14) (d:=some 33) (v:=.agg #[.string (st (103::Lib.decDigits gs.length)),.int .i64 0]) rfl (by kernel_rfl) (by kernel_rfl) (by kernel_rfl) (by kernel_rfl) (fun _ _ _ h=>h) (Or.inl ⟨by kernel_rfl,?_⟩) (by assumption) ?_
       ·(intro w hSw;go_simp;try with_reducible rfl)
       (try simp only [Act.put,List.setIfInBounds_toArray,List.set_cons_zero,List.set_cons_succ])
       have hz0:(0:Int)<=0:=by omega
       have hz5:(0:Int)<=5:=by omega
       refine rdH 15 fun K hK=>?_
       ·go_simp
        have hb:=below_alloc w20 (.cells #[.string (st (103::Lib.decDigits gs.length)),.int .i64 0] 62)
        have HNW:=Lib.hid (heap_alloc_new w20 (.cells #[.string (st (103::Lib.decDigits gs.length)),.int .i64 0] 62))
        have HOB:=Lib.hid (own_same (HX20.out.gl) (fun q hq=>hb.block q (HX20.out.gl.lt q hq).2))
        have HXK:=HX20
        refine goH hK trivial fun hHeld=>?_
        clear hK K hb
        obtain⟨w21,hw⟩ : ∃ wx,w20.alloc (.cells #[.string (st (103::Lib.decDigits gs.length)),.int .i64 0] 62)=wx:=⟨_,rfl⟩
        obtain⟨gb,hgb⟩ : ∃ gb,w20.heap.size=gb:=⟨_,rfl⟩
        rw [hw] at HNW HOB
        (try rw [hw])
        rw [hgb] at HNW
        (try rw [hgb])
        have HEQ:=Lib.hid hw
        have hsz:gm+1<=w21.heap.size:=by have:=HXK.out.row;have:=heap_lt this;rw [<- hw];simp;omega
        have HX21:Hid (w21.heap[gm]?=some (grow gc (.slice aa gs.length ca))):=Lib.hid (by rw [<- hw];exact(Below.heap_alloc _ _ gm (heap_lt HXK.out.row)).trans HXK.out.row)
        clear hw hgb
        refine rdH 16 fun K hK=>?_
        refine step_append_lies _ (by rfl) _ _ _ (by rfl) (gm+1) 62 i0 _ 2 24 Tryd.underlying29 HI.out.1 HI.out.2.1 HI.out.2.2.1 HI.out.2.2.2 rfl (by omega) _ _ _ (by rfl) HOB.out ⟨gb,0,none⟩ 1 1 [.string (st (103::Lib.decDigits gs.length)),.int .i64 0] (by rfl) (by rfl) (World.news_of_block (cs := #[.string (st (103::Lib.decDigits gs.length)),.int .i64 0]) (t:=62) (fr:=(0,0)) HNW.out) (by simp [Value.oneCell']) (by omega) (by unfold maxLen;omega) (by omega) hsz _ rfl ?_
        intro g9 c9 wF hownF hgF _ hltF
        have hrF:=(hgF.block gm (heap_lt HX21.out) (fun e=>by have:=(HOB.out.lt gm e.symm).1;omega)).trans HX21.out
        rw [<- HEQ.out] at hgF
        have HPS:=Lib.hid (HXK.out.push (okN_num 103 (.inl rfl) gs.length (by omega)) hz0 hz5 hgF hownF)
        refine goH hK trivial fun hHeld=>?_
        clear hK K hownF hgF hltF
        refine tkH 17 36 ?_
        refine tkH 18 37 ?_
        refine tkH 19 38 ?_
        have f1:=frozen_of_row _ gm 1 _ _ hrF
        have k1:=cell_of_row _ _ 1 _ _ _ hrF
        have jl:=heap_lt hrF
        refine rdH 20 fun K hK=>?_
        go_simp
        refine goH hK trivial fun hHeld=>?_
        clear hK K
        refine wpAnyH_done (by kernel_rfl) ?_ _
        go_wp2_with fail
        go_meet
        exact⟨_,_,Lib.hid ⟨by simp,HPS.out⟩⟩
    ·have c1:=cell_of_row _ _ 1 _ _ _ HX0.out.row
     go_simp
     refine goH hK trivial fun hHeld=>?_
     clear hK K c1
     refine tkH 11 30 ?_
     refine wpAnyH_ready (rs:=[5,12]) (by kernel_rfl) (by simp) ?_
     refine AllReadyH.cons rfl (fun K hK=>?_) (AllReadyH.cons rfl (fun K hK=>?_) AllReadyH.nil)
     ·have c1:=cell_of_row _ _ 1 _ _ _ HX0.out.row
      go_simp
      refine goH hK trivial fun hHeld=>?_
      clear hK K c1
      refine rdH 12 fun K hK=>?_
      ·go_simp
       refine(Number_any gs.length (by omega) _).mono ?_
       rintro e w22 ⟨rfl,hb⟩
       have HX22:=Lib.hid (HX0.out.below hb)
       refine goH hK trivial fun hHeld=>?_
       clear hK K hb
       refine wpAnyH_takeD (i:=13) (d:=some 32) (v:=.string (st (103::Lib.decDigits gs.length))) rfl (by kernel_rfl) (by kernel_rfl) (by kernel_rfl) (by kernel_rfl) (fun _ _ _ h=>h) (Or.inl ⟨by kernel_rfl,?_⟩) (by assumption) ?_
       ·(intro w hSw;have hst:=st_cat [103] (Lib.decDigits gs.length);have hdl:=dec_len19 (n:=gs.length) (by omega);go_simp;(try omega);try with_reducible rfl)
       (try simp only [Act.put,List.setIfInBounds_toArray,List.set_cons_zero,List.set_cons_succ])
       refine wpAnyH_takeD (i:=14) (d:=some 33) (v:=.agg #[.string (st (103::Lib.decDigits gs.length)),.int .i64 0]) rfl (by kernel_rfl) (by kernel_rfl) (by kernel_rfl) (by kernel_rfl) (fun _ _ _ h=>h) (Or.inl ⟨by kernel_rfl,?_⟩) (by assumption) ?_
       ·(intro w hSw;go_simp;try with_reducible rfl)
       (try simp only [Act.put,List.setIfInBounds_toArray,List.set_cons_zero,List.set_cons_succ])
       have hz0:(0:Int)<=0:=by omega
       have hz5:(0:Int)<=5:=by omega
       refine rdH 15 fun K hK=>?_
       ·go_simp
        have hb:=below_alloc w22 (.cells #[.string (st (103::Lib.decDigits gs.length)),.int .i64 0] 62)
        have HNW:=Lib.hid (heap_alloc_new w22 (.cells #[.string (st (103::Lib.decDigits gs.length)),.int .i64 0] 62))
        have HOB:=Lib.hid (own_same (HX22.out.gl) (fun q hq=>hb.block q (HX22.out.gl.lt q hq).2))
        have HXK:=HX22
        refine goH hK trivial fun hHeld=>?_
        clear hK K hb
        obtain⟨w23,hw⟩ : ∃ wx,w22.alloc (.cells #[.string (st (103::Lib.decDigits gs.length)),.int .i64 0] 62)=wx:=⟨_,rfl⟩
        obtain⟨gb,hgb⟩ : ∃ gb,w22.heap.size=gb:=⟨_,rfl⟩
        rw [hw] at HNW HOB
        (try rw [hw])
        rw [hgb] at HNW
        (try rw [hgb])
        have HEQ:=Lib.hid hw
        have hsz:gm+1<=w23.heap.size:=by have:=HXK.out.row;have:=heap_lt this;rw [<- hw];simp;omega
        have HX23:Hid (w23.heap[gm]?=some (grow gc (.slice aa gs.length ca))):=Lib.hid (by rw [<- hw];exact(Below.heap_alloc _ _ gm (heap_lt HXK.out.row)).trans HXK.out.row)
        clear hw hgb
        refine rdH 16 fun K hK=>?_
        refine step_append_lies _ (by rfl) _ _ _ (by rfl) (gm+1) 62 i0 _ 2 24 Tryd.underlying29 HI.out.1 HI.out.2.1 HI.out.2.2.1 HI.out.2.2.2 rfl (by omega) _ _ _ (by rfl) HOB.out ⟨gb,0,none⟩ 1 1 [.string (st (103::Lib.decDigits gs.length)),.int .i64 0] (by rfl) (by rfl) (World.news_of_block (cs := #[.string (st (103::Lib.decDigits gs.length)),.int .i64 0]) (t:=62) (fr:=(0,0)) HNW.out) (by simp [Value.oneCell']) (by omega) (by unfold maxLen;omega) (by omega) hsz _ rfl ?_
        intro g9 c9 wF hownF hgF _ hltF
        have hrF:=(hgF.block gm (heap_lt HX23.out) (fun e=>by have:=(HOB.out.lt gm e.symm).1;omega)).trans HX23.out
        rw [<- HEQ.out] at hgF
        have HPS:=Lib.hid (HXK.out.push (okN_num 103 (.inl rfl) gs.length (by omega)) hz0 hz5 hgF hownF)
        refine goH hK trivial fun hHeld=>?_
        clear hK K hownF hgF hltF
        refine tkH 17 36 ?_
        refine tkH 18 37 ?_
        refine tkH 19 38 ?_
        have f1:=frozen_of_row _ gm 1 _ _ hrF
        have k1:=cell_of_row _ _ 1 _ _ _ hrF
        have jl:=heap_lt hrF
        refine rdH 20 fun K hK=>?_
        go_simp
        refine goH hK trivial fun hHeld=>?_
        clear hK K
        refine wpAnyH_done (by kernel_rfl) ?_ _
        go_wp2_with fail
        go_meet
        exact⟨_,_,Lib.hid ⟨by simp,HPS.out⟩⟩
     ·go_simp
      refine(Number_any gs.length (by omega) _).mono ?_
      rintro e w24 ⟨rfl,hb⟩
      have HX24:=Lib.hid (HX0.out.below hb)
      refine goH hK trivial fun hHeld=>?_
      clear hK K hb
      refine wpAnyH_takeD (i:=13) (d:=some 32) (v:=.string (st (103::Lib.decDigits gs.length))) rfl (by kernel_rfl) (by kernel_rfl) (by kernel_rfl) (by kernel_rfl) (fun _ _ _ h=>h) (Or.inl ⟨by kernel_rfl,?_⟩) (by assumption) ?_
      ·(intro w hSw;have hst:=st_cat [103] (Lib.decDigits gs.length);have hdl:=dec_len19 (n:=gs.length) (by omega);go_simp;(try omega);try with_reducible rfl)
      (try simp only [Act.put,List.setIfInBounds_toArray,List.set_cons_zero,List.set_cons_succ])
      refine wpAnyH_takeD (i:=14) (d:=some 33) (v:=.agg #[.string (st (103::Lib.decDigits gs.length)),.int .i64 0]) rfl (by kernel_rfl) (by kernel_rfl) (by kernel_rfl) (by kernel_rfl) (fun _ _ _ h=>h) (Or.inl ⟨by kernel_rfl,?_⟩) (by assumption) ?_
      ·(intro w hSw;go_simp;try with_reducible rfl)
      (try simp only [Act.put,List.setIfInBounds_toArray,List.set_cons_zero,List.set_cons_succ])
      have hz0:(0:Int)<=0:=by omega
      have hz5:(0:Int)<=5:=by omega
      refine wpAnyH_ready (rs:=[5,15]) (by kernel_rfl) (by simp) ?_
      refine AllReadyH.cons rfl (fun K hK=>?_) (AllReadyH.cons rfl (fun K hK=>?_) AllReadyH.nil)
      ·have c1:=cell_of_row _ _ 1 _ _ _ HX24.out.row
       go_simp
       refine goH hK trivial fun hHeld=>?_
       clear hK K c1
       refine rdH 15 fun K hK=>?_
       ·go_simp
        have hb:=below_alloc w24 (.cells #[.string (st (103::Lib.decDigits gs.length)),.int .i64 0] 62)
        have HNW:=Lib.hid (heap_alloc_new w24 (.cells #[.string (st (103::Lib.decDigits gs.length)),.int .i64 0] 62))
        have HOB:=Lib.hid (own_same (HX24.out.gl) (fun q hq=>hb.block q (HX24.out.gl.lt q hq).2))
        have HXK:=HX24
        refine goH hK trivial fun hHeld=>?_
        clear hK K hb
        obtain⟨w25,hw⟩ : ∃ wx,w24.alloc (.cells #[.string (st (103::Lib.decDigits gs.length)),.int .i64 0] 62)=wx:=⟨_,rfl⟩
        obtain⟨gb,hgb⟩ : ∃ gb,w24.heap.size=gb:=⟨_,rfl⟩
        rw [hw] at HNW HOB
        (try rw [hw])
        rw [hgb] at HNW
        (try rw [hgb])
        have HEQ:=Lib.hid hw
        have hsz:gm+1<=w25.heap.size:=by have:=HXK.out.row;have:=heap_lt this;rw [<- hw];simp;omega
        have HX25:Hid (w25.heap[gm]?=some (grow gc (.slice aa gs.length ca))):=Lib.hid (by rw [<- hw];exact(Below.heap_alloc _ _ gm (heap_lt HXK.out.row)).trans HXK.out.row)
        clear hw hgb
        refine rdH 16 fun K hK=>?_
        refine step_append_lies _ (by rfl) _ _ _ (by rfl) (gm+1) 62 i0 _ 2 24 Tryd.underlying29 HI.out.1 HI.out.2.1 HI.out.2.2.1 HI.out.2.2.2 rfl (by omega) _ _ _ (by rfl) HOB.out ⟨gb,0,none⟩ 1 1 [.string (st (103::Lib.decDigits gs.length)),.int .i64 0] (by rfl) (by rfl) (World.news_of_block (cs := #[.string (st (103::Lib.decDigits gs.length)),.int .i64 0]) (t:=62) (fr:=(0,0)) HNW.out) (by simp [Value.oneCell']) (by omega) (by unfold maxLen;omega) (by omega) hsz _ rfl ?_
        intro g9 c9 wF hownF hgF _ hltF
        have hrF:=(hgF.block gm (heap_lt HX25.out) (fun e=>by have:=(HOB.out.lt gm e.symm).1;omega)).trans HX25.out
        rw [<- HEQ.out] at hgF
        have HPS:=Lib.hid (HXK.out.push (okN_num 103 (.inl rfl) gs.length (by omega)) hz0 hz5 hgF hownF)
        refine goH hK trivial fun hHeld=>?_
        clear hK K hownF hgF hltF
        refine tkH 17 36 ?_
        refine tkH 18 37 ?_
        refine tkH 19 38 ?_
        have f1:=frozen_of_row _ gm 1 _ _ hrF
        have k1:=cell_of_row _ _ 1 _ _ _ hrF
        have jl:=heap_lt hrF
        refine rdH 20 fun K hK=>?_
        go_simp
        refine goH hK trivial fun hHeld=>?_
        clear hK K
        refine wpAnyH_done (by kernel_rfl) ?_ _
        go_wp2_with fail
        go_meet
        exact⟨_,_,Lib.hid ⟨by simp,HPS.out⟩⟩
      ·go_simp
       have hb:=below_alloc w24 (.cells #[.string (st (103::Lib.decDigits gs.length)),.int .i64 0] 62)
       have HNW:=Lib.hid (heap_alloc_new w24 (.cells #[.string (st (103::Lib.decDigits gs.length)),.int .i64 0] 62))
       have HOB:=Lib.hid (own_same (HX24.out.gl) (fun q hq=>hb.block q (HX24.out.gl.lt q hq).2))
       have HXK:=HX24
       refine goH hK trivial fun hHeld=>?_
       clear hK K hb
       obtain⟨w26,hw⟩ : ∃ wx,w24.alloc (.cells #[.string (st (103::Lib.decDigits gs.length)),.int .i64 0] 62)=wx:=⟨_,rfl⟩
       obtain⟨gb,hgb⟩ : ∃ gb,w24.heap.size=gb:=⟨_,rfl⟩
       rw [hw] at HNW HOB
       (try rw [hw])
       rw [hgb] at HNW
       (try rw [hgb])
       have HEQ:=Lib.hid hw
       have hsz:gm+1<=w26.heap.size:=by have:=HXK.out.row;have:=heap_lt this;rw [<- hw];simp;omega
       have HX26:Hid (w26.heap[gm]?=some (grow gc (.slice aa gs.length ca))):=Lib.hid (by rw [<- hw];exact(Below.heap_alloc _ _ gm (heap_lt HXK.out.row)).trans HXK.out.row)
       clear hw hgb
       refine rdH 5 fun K hK=>?_
       have c1:=cell_of_row _ _ 1 _ _ _ HX26.out
       go_simp
       refine goH hK trivial fun hHeld=>?_
       clear hK K c1
       refine rdH 16 fun K hK=>?_
       refine step_append_lies _ (by rfl) _ _ _ (by rfl) (gm+1) 62 i0 _ 2 24 Tryd.underlying29 HI.out.1 HI.out.2.1 HI.out.2.2.1 HI.out.2.2.2 rfl (by omega) _ _ _ (by rfl) HOB.out ⟨gb,0,none⟩ 1 1 [.string (st (103::Lib.decDigits gs.length)),.int .i64 0] (by rfl) (by rfl) (World.news_of_block (cs := #[.string (st (103::Lib.decDigits gs.length)),.int .i64 0]) (t:=62) (fr:=(0,0)) HNW.out) (by simp [Value.oneCell']) (by omega) (by unfold maxLen;omega) (by omega) hsz _ rfl ?_
       intro g9 c9 wF hownF hgF _ hltF
       have hrF:=(hgF.block gm (heap_lt HX26.out) (fun e=>by have:=(HOB.out.lt gm e.symm).1;omega)).trans HX26.out
       rw [<- HEQ.out] at hgF
       have HPS:=Lib.hid (HXK.out.push (okN_num 103 (.inl rfl) gs.length (by omega)) hz0 hz5 hgF hownF)
       refine goH hK trivial fun hHeld=>?_
       clear hK K hownF hgF hltF
       refine tkH 17 36 ?_
       refine tkH 18 37 ?_
       refine tkH 19 38 ?_
       have f1:=frozen_of_row _ gm 1 _ _ hrF
       have k1:=cell_of_row _ _ 1 _ _ _ hrF
       have jl:=heap_lt hrF
       refine rdH 20 fun K hK=>?_
       go_simp
       refine goH hK trivial fun hHeld=>?_
       clear hK K
       refine wpAnyH_done (by kernel_rfl) ?_ _
       go_wp2_with fail
       go_meet
       exact⟨_,_,Lib.hid ⟨by simp,HPS.out⟩⟩
   case rest =>
    obtain⟨va2,gs2,HR2⟩:=hcut
    go_wp2_with fail
    go_roundw
    case rel=>exact⟨k - 1,va2,gs2,by go_num,Lib.hid ⟨by have h0:=HKP.out;have h1:=HR.out.1;have h2:=HR2.out.1;omega,HR2.out.2⟩⟩
    case measure=>have h0:=HKP.out;simp [intOf];omega
end Go.Proofs.YtpcdinelpfbpfaaDoor
