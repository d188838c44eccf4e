/-
  WORDS, PLAIN LAWS and WALKS (Mda Mdb), pressed. (Filled in from templates of this repo.)
-/
import Derived.Deep.CutBlock
import Derived.Deep.CutRange
import Derived.Test.YtldgghnjminhiaaGreatDoorG2
import Derived.Test.YtldgghnjminhiaaGreatDoorG8
namespace Go.Proofs.YtldgghnjminhiaaGreatDoor
open Go Go.ChangeAt Go.ChangeShapes Go.RowKit Go.WideShapes
set_option linter.unusedVariables false
set_option linter.unusedSimpArgs false
set_option maxRecDepth 100000
set_option maxHeartbeats 16000000
def Sk (w:World) (a:Option Addr) (gs:List (Bt×Int)):Prop:=∀ j x,gs[j]?=some x->∃ b off,a=some ⟨b,off,none⟩/\b<w.heap.size /\
 w.cell? ⟨b,off+j*2,none⟩=some (.string (st x.1))/\w.cell? ⟨b,off+j*2+1,none⟩=some (.int .i64 x.2)
theorem Sk.of_own {w:World} {base n:Nat} {e:TypeId} {v:Value} {gs:List (Bt×Int)} (h:w.ownsRow base e 2 v n (glc gs)) :
  ∃ a cap,v=.slice a n cap/\gs.length=n/\n<=cap/\cap<=maxLen/\Sk w a gs:=by
 obtain⟨a,cap,rfl,h1,h2,h3,h4,h5⟩:=Yf.of_own h
 rw[Lh] at h1
 refine⟨a,cap,rfl,by omega,h2,h3,λ j s hj=>?_⟩
 obtain⟨g1,g2⟩:=Sq gs j s hj
 obtain⟨b,off,e1,hb,hc⟩:=h4 (λ e=>by rw[e] at g1;simp at g1)
 exact⟨b,off,e1,hb,hc _ _ g1,by rw[Nat.add_assoc];exact hc _ _ g2⟩
def Kt (M:Mk) (arr:Bool) (nm:Bt):Prop:=∃ g∈M.gs,g.1=nm/\decide (0<g.2)=arr
def Fk (gc gm:Nat) (M:Mk) (arr:Bool) (w:World) (e:Ending) (w':World):Prop :=
 ∃ (nm:Bt) (ok:Bool),e=.returned (.tuple #[.string (st nm),.bool ok])/\(ok=true->Kt M arr nm)/\Cod w' gc/\w.grownBy w' (some gc)
theorem Wb (gc gm:Nat) (M:Mk) (arr:Bool) (w:World) (h:Yg w gc gm M):Calls Tryz.prog 121 #[.pointer (some ⟨gm,0,none⟩),.bool arr] w (Fk gc gm M arr w):=by
 obtain⟨i0,hi0,hz0,hz1,hz2⟩:=info_parts Tryz.infoStr
 have HI:=Xj hi0
 have HZ0:=Xj hz0
 have HZ1:=Xj hz1
 have HZ2:=Xj hz2
 clear hi0 hz0 hz1 hz2
 have HM:=Xj h
 obtain⟨ag,cg,hva,hgl,hgc1,hgc2,_⟩:=Sk.of_own h.gl
 have hgn:=h.gn
 have hnn:M.gs.length<=9223372036854775807:=by omega
 have hqt:=h.lt2
 have Hi:=h.row
 rw[hva] at Hi
 have c0:=cell_of_row _ _ 0 _ _ _ Hi
 have c1:=cell_of_row _ _ 1 _ _ _ Hi
 have HVA:=Xj hva
 have hqb:=Xj Hi
 clear h hva Hi
 go_enter Tryz.func121,Tryz.ntmps121
 go_wp2_with fail
 go_loopw [6,7] (λ v6 v7 wr=>∃ (i:Nat) (acc:List Bt),v7=.int .i64 i/\i<=M.gs.length/\acc.length<=i/\Xq ((∀ l∈acc,Kt M arr l)/\Below w.heap.size w wr/\wr.ownsRow w.heap.size 9 1 v6 acc.length (Zm acc))) (λ _ v7 _=>M.gs.length-(intOf v7).toNat)
 case atStart=>exact⟨0,[],rfl,by omega,by simp,Xj ⟨by simp,Below.refl _ _,World.ownsRow_nil _ _ _ _⟩⟩
 obtain⟨i,acc,rfl,hi,hacc,HR⟩:=hrel
 have hM2:=HM.o.below HR.o.2.1
 have hsz:=HR.o.2.1.size
 clear c0 c1
 have Hi:=hM2.row
 rw[HVA.o] at Hi
 have c0:=cell_of_row _ _ 0 _ _ _ Hi
 have c1:=cell_of_row _ _ 1 _ _ _ Hi
 clear Hi
 by_cases hlt:i<M.gs.length
 ·obtain⟨g,hg⟩:∃ g,M.gs[i]?=some g:=⟨_,List.getElem?_eq_getElem hlt⟩
  obtain⟨ag',cg',hva',_,_,_,hgls⟩:=Sk.of_own hM2.gl
  rw[HVA.o] at hva'
  injection hva' with e1 e2 e3
  subst e1 e3
  obtain⟨b,off,rfl,hb,g1,g2⟩:=hgls i g hg
  have HMEM:Xq (g∈M.gs):=Xj (List.mem_of_getElem? hg)
  clear hgls hM2 hg
  cases hs:decide ((0:Int)<g.2)<;>cases arr
  ·have HOA:=Xj (HR.o.2.2.alloc (.cells #[.string (st g.1)] 9))
   have HBA:=Xj (HR.o.2.1.alloc HR.o.2.1.size (.cells #[.string (st g.1)] 9))
   have HPK:Xq (Kt M false g.1):=Xj ⟨g,HMEM.o,rfl,hs⟩
   go_wp2_with (at_builtin;refine wpList_append_own _ rfl _ _ _ rfl w.heap.size 9 i0 _ 1 16 Tryz.underlying42 HI.o HZ0.o HZ1.o HZ2.o rfl (by omega) _ _ _ rfl HOA.o ⟨wr.heap.size,0,none⟩ 1 1 [.string (st g.1)] rfl rfl (World.news_of_block (cs := #[.string (st g.1)]) (t:=9) (fr:=(0,0)) (heap_alloc_new wr _)) (by simp[Value.oneCell']) (by unfold maxLen;omega) (by omega) (by simp;omega) ?_;intro v' w9 hown9 hgrow9 _;have HO9:=Xj hown9;have HG9:=Xj hgrow9;clear hown9 hgrow9)
   go_roundw
   case rel =>
    refine⟨i+1,acc++[g.1],by go_num,by omega,by simp;omega,Xj ⟨?_,HBA.o.grown HG9.o HBA.o.size (λ k hk=>(HOA.o.lt k hk).1),?_⟩⟩
    ·intro l hl
     rw[List.mem_append] at hl
     rcases hl with hl|hl
     ·exact HR.o.1 l hl
     simp at hl;subst hl;exact HPK.o
    have:=HO9.o
    rw[<- Hx]
    simpa using this
   simp[intOf];omega
  ·go_wp2_with fail
   go_roundw
   case rel=>exact⟨i+1,acc,by go_num,by omega,by omega,HR⟩
   simp[intOf];omega
  ·go_wp2_with fail
   go_roundw
   case rel=>exact⟨i+1,acc,by go_num,by omega,by omega,HR⟩
   simp[intOf];omega
  have HOA:=Xj (HR.o.2.2.alloc (.cells #[.string (st g.1)] 9))
  have HBA:=Xj (HR.o.2.1.alloc HR.o.2.1.size (.cells #[.string (st g.1)] 9))
  have HPK:Xq (Kt M true g.1):=Xj ⟨g,HMEM.o,rfl,hs⟩
  go_wp2_with (at_builtin;refine wpList_append_own _ rfl _ _ _ rfl w.heap.size 9 i0 _ 1 16 Tryz.underlying42 HI.o HZ0.o HZ1.o HZ2.o rfl (by omega) _ _ _ rfl HOA.o ⟨wr.heap.size,0,none⟩ 1 1 [.string (st g.1)] rfl rfl (World.news_of_block (cs := #[.string (st g.1)]) (t:=9) (fr:=(0,0)) (heap_alloc_new wr _)) (by simp[Value.oneCell']) (by unfold maxLen;omega) (by omega) (by simp;omega) ?_;intro v' w9 hown9 hgrow9 _;have HO9:=Xj hown9;have HG9:=Xj hgrow9;clear hown9 hgrow9)
  go_roundw
  case rel =>
   refine⟨i+1,acc++[g.1],by go_num,by omega,by simp;omega,Xj ⟨?_,HBA.o.grown HG9.o HBA.o.size (λ k hk=>(HOA.o.lt k hk).1),?_⟩⟩
   ·intro l hl
    rw[List.mem_append] at hl
    rcases hl with hl|hl
    ·exact HR.o.1 l hl
    simp at hl;subst hl;exact HPK.o
   have:=HO9.o
   rw[<- Hx]
   simpa using this
  simp[intOf];omega
 obtain rfl:i=M.gs.length:=by omega
 obtain⟨a6,c6,rfl,h61,h62,h63,h64,_⟩:=Yf.of_own HR.o.2.2
 have HCOD:=Xj hM2.cod
 clear h61 h64 hM2
 unfold maxLen at h63
 cases acc with
 | nil =>
  go_wp2_with fail
  refine bodyPost_ret (v:=.tuple #[.string (st []),.bool false]) (by simp[results,Tryz.results121,go_sem]) rfl ?_
  exact⟨[],false,rfl,(λ h=>nomatch h),HCOD.o,Xg HR.o.2.1 _⟩
 | cons l0 lr =>
  obtain⟨n,hn⟩:∃ n,(l0::lr).length=n:=⟨_,rfl⟩
  have HN:=Xj hn
  have hn1:1<=n:=by rw[<- hn];simp
  have hn2:n<=4:=by omega
  rw[hn] at h62 ⊢
  clear hn
  have dn:((n:Int)==0)=false:=by rw[beq_eq_false_iff_ne];omega
  go_wp2_with fail
  refine(Yq gc n (by omega) _ HCOD.o).mono ?_
  rintro e w2 ⟨x,rfl,x0,x1,hH,hg⟩
  obtain⟨x,rfl⟩:=Int.eq_ofNat_of_zero_le x0
  have x2:x<n:=by omega
  have hjz:=Yz HR.o.2.2 hg (by omega)
  obtain⟨_,_,e1,_,_,_,hcs,_⟩:=Yf.of_own hjz
  injection e1 with e1 e2 e3
  subst e1
  have hgx:(l0::lr)[x]?=some ((l0::lr).getD x []):=by
   have:=HN.o
   rw[List.getD,List.getElem?_eq_getElem (by omega)];rfl
  obtain⟨nm,hnm⟩:∃ nm,(l0::lr).getD x []=nm:=⟨_,rfl⟩
  rw[hnm] at hgx
  have hsx:(Zm (l0::lr))[x]?=some (.string (st nm)):=by unfold Zm;rw[List.getElem?_map,hgx];rfl
  obtain⟨b,off,rfl,hb,hc⟩:=hcs (λ e=>by rw[e] at hsx;cases hsx)
  have hcx:=hc _ _ hsx
  have HPK:Xq (Kt M arr nm):=Xj (HR.o.1 nm (List.mem_of_getElem? hgx))
  have hjw:=Xj (Xb (Xg HR.o.2.1 (some gc)) hg)
  have HCD:=Xj hH
  have hx1':(x:Int)<(n:Int):=by omega
  clear hjz hcs hgx hnm hsx hc hg hH x1
  go_wp2_with fail
  refine bodyPost_ret (v:=.tuple #[.string (st nm),.bool true]) (by simp[results,Tryz.results121,go_sem]) rfl ?_
  exact⟨nm,true,rfl,λ _=>HPK.o,HCD.o,hjw.o⟩
theorem Cd {w:World} {gc b:Nat} {v0 v1 v2 v3 v4 v5:Value} (h:Cod w gc) (hb:gc<b):Cod (set6 w b v0 v1 v2 v3 v4 v5) gc:=h.keep λ k hk=>Yx k (by omega)
theorem Aq {w:World} {b lo:Nat} {v0 v1 v2 v3 v4 v5:Value} {ar:Fo} {sl:Value} (h:Xk w (λ k=>b<k) ar sl) (hlo:lo<=b):Xk (set6 w b v0 v1 v2 v3 v4 v5) (λ k=>lo<=k) ar sl :=
 h.keep (λ k hk _=>⟨Yx k (by omega),by omega⟩) (by rw[Zv];exact Nat.le_refl _)
structure ExW (w:World) (gc gm:Nat) (M:Mk) (g:Nat) (wx:World):Prop where
 eg:g=w.heap.size
 row:wx.heap[g]?=some zex
 mkr:Yg wx gc gm M
 gr:w.grownBy wx (some gc)
theorem ExW.start {w:World} {gc gm:Nat} {M:Mk} (h:Yg w gc gm M):ExW w gc gm M w.heap.size (w.alloc zex) :=
 ⟨rfl,heap_alloc_new w _,h.below (Xw _ _),Xg (Xw _ _) _⟩
theorem ExW.lts {w:World} {gc gm:Nat} {M:Mk} {g:Nat} {wx:World} (h:ExW w gc gm M g wx):g<wx.heap.size:=Xv h.row
theorem ExW.grown {w:World} {gc gm:Nat} {M:Mk} {g:Nat} {wx wy:World} (h:ExW w gc gm M g wx) (hl:gc<g) (hg:wx.grownBy wy (some gc)) (hc:Cod wy gc):ExW w gc gm M g wy :=
 ⟨h.eg,(hg.block g h.lts (λ e=>by injection e with e;omega)).trans h.row,h.mkr.grown hg hc,Xb h.gr hg⟩
theorem ExW.below {w:World} {gc gm:Nat} {M:Mk} {g:Nat} {wx wy:World} (h:ExW w gc gm M g wx) (hb:Below wx.heap.size wx wy):ExW w gc gm M g wy :=
 ⟨h.eg,(hb.block g h.lts).trans h.row,h.mkr.below hb,Xb h.gr (Xg hb _)⟩
theorem ExW.fin {w:World} {gc gm:Nat} {M:Mk} {g:Nat} {wx:World} {d:Nat} (h:ExW w gc gm M g wx) (hl:gc<g) {hd:Hd} {ar:Fo} {sl:Value} (ha:Xk wx (λ k=>g<k) ar sl) (hE:Zg d hd ar) :
  ∀ W,W=set6 wx g (.int .i64 hd.k) (.int .i64 hd.op) (.int .i64 hd.v) (.int .i64 hd.ln) (.string (st hd.nm)) sl ->
   W.cell? ⟨g,0,none⟩=some (.int .i64 hd.k)/\W.cell? ⟨g,1,none⟩=some (.int .i64 hd.op)/\W.cell? ⟨g,2,none⟩=some (.int .i64 hd.v)/\W.cell? ⟨g,3,none⟩=some (.int .i64 hd.ln)/\W.cell? ⟨g,4,none⟩=some (.string (st hd.nm))/\W.cell? ⟨g,5,none⟩=some sl/\Xq (Un gc gm d w (.returned (exv hd sl)) W):=λ W hW=>by
 subst hW
 obtain⟨q0,q1,q2,q3,q4,q5⟩:=Yu (Qj (v0:=.int .i64 hd.k) (v1:=.int .i64 hd.op) (v2:=.int .i64 hd.v) (v3:=.int .i64 hd.ln) (v4:=.string (st hd.nm)) (v5:=sl) h.row)
 exact⟨q0,q1,q2,q3,q4,q5,Xj ⟨hd,ar,sl,rfl,Aq ha (Nat.le_of_eq h.eg.symm),hE,Cd h.mkr.cod hl,Et h.gr (Nat.le_of_eq h.eg.symm)⟩⟩
theorem ExW.cells {w:World} {gc gm:Nat} {M:Mk} {g:Nat} {wx:World} (h:ExW w gc gm M g wx) :
  g<wx.heap.size/\wx.frozen? ⟨g,0,none⟩=false/\wx.frozen? ⟨g,1,none⟩=false/\wx.frozen? ⟨g,2,none⟩=false/\wx.frozen? ⟨g,3,none⟩=false/\wx.frozen? ⟨g,4,none⟩=false/\wx.frozen? ⟨g,5,none⟩=false /\
  wx.cell? ⟨g,0,none⟩=some (.int .i64 0)/\wx.cell? ⟨g,1,none⟩=some (.int .i64 0)/\wx.cell? ⟨g,2,none⟩=some (.int .i64 0)/\wx.cell? ⟨g,3,none⟩=some (.int .i64 0)/\wx.cell? ⟨g,4,none⟩=some (.string { data := #[] })/\wx.cell? ⟨g,5,none⟩=some (.slice none 0 0) :=
 ⟨h.lts,frozen_of_row _ g 0 _ _ h.row,frozen_of_row _ g 1 _ _ h.row,frozen_of_row _ g 2 _ _ h.row,frozen_of_row _ g 3 _ _ h.row,frozen_of_row _ g 4 _ _ h.row,frozen_of_row _ g 5 _ _ h.row,Yu h.row⟩
theorem Yg.set {w wx:World} {gc gm:Nat} {M:Mk} {p:Addr} {v:Value} (h:Yg wx gc gm M) (hM:Yg w gc gm M) (hp:w.heap.size<=p.block):Yg (wx.setCell p v) gc gm M :=
 have kp:∀ b,b≠p.block->(wx.setCell p v).heap[b]?=wx.heap[b]?:=λ b hb=>heap_setCell_other wx p b v hb
 have key:∀ {e k n:Nat} {u:Value} {l:List Value},wx.ownsRow (gm+1) e k u n l->w.ownsRow (gm+1) e k u n l->(wx.setCell p v).ownsRow (gm+1) e k u n l:=λ {e k n u l} h1 h2=>by
  have hg:wx.grownBy (wx.setCell p v) (some p.block):=⟨rfl,rfl,rfl,by simp[World.setCell],λ k hk hn=>kp k (λ e=>hn (by rw[e]))⟩
  refine h1.kept hg ?_
  cases hq:u.ownBlock with
  | none=>exact .inl rfl
  | some q=>exact .inr (λ e=>by injection e with e;have:=(h2.lt q hq).2;omega)
 {h with
  cod:=h.cod.keep λ k hk=>kp k (by have:=hM.cod.lt;omega)
  row:=(kp gm (by have:=Xv hM.row;omega)).trans h.row
  gl:=key h.gl hM.gl
  fn:=key h.fn hM.fn
  lo:=key h.lo hM.lo }
theorem ExW.set {w:World} {gc gm:Nat} {M:Mk} {g:Nat} {wx:World} {p:Addr} {v:Value} (h:ExW w gc gm M g wx) (hp:g<p.block) (hM:Yg w gc gm M):ExW w gc gm M g (wx.setCell p v) :=
 ⟨h.eg,(heap_setCell_other wx p g v (by omega)).trans h.row,h.mkr.set hM (by have:=h.eg;omega),Yb h.gr (by have:=h.eg;omega)⟩
theorem ExW.set4 {w:World} {gc gm:Nat} {M:Mk} {g b:Nat} {wx:World} {v0 v1 v2 v3:Value} (h:ExW w gc gm M g wx) (hl:gc<g) (hgm:gm<g) (hp:g<b) (hM:Yg w gc gm M):ExW w gc gm M g (set4 wx b v0 v1 v2 v3) :=
 (((h.set (p:=⟨b,0,none⟩) hp hM).set (p:=⟨b,1,none⟩) hp hM).set (p:=⟨b,2,none⟩) hp hM).set (p:=⟨b,3,none⟩) hp hM
theorem ExW.set6 {w:World} {gc gm:Nat} {M:Mk} {g b:Nat} {wx:World} {v0 v1 v2 v3 v4 v5:Value} (h:ExW w gc gm M g wx) (hp:g<b) (hM:Yg w gc gm M):ExW w gc gm M g (set6 wx b v0 v1 v2 v3 v4 v5) :=
 (((((h.set (p:=⟨b,0,none⟩) hp hM).set (p:=⟨b,1,none⟩) hp hM).set (p:=⟨b,2,none⟩) hp hM).set (p:=⟨b,3,none⟩) hp hM).set (p:=⟨b,4,none⟩) hp hM).set (p:=⟨b,5,none⟩) hp hM
theorem Yg.own {w wx wy:World} {gc gm:Nat} {M:Mk} {r:Option Nat} (h:Yg wx gc gm M) (hM:Yg w gc gm M) (hg:wx.grownBy wy r) (hr:∀ k,r=some k->w.heap.size<=k):Yg wy gc gm M :=
 have hs:=hg.size
 have kp:∀ b,b<w.heap.size->b<wx.heap.size->wy.heap[b]?=wx.heap[b]?:=λ b hb hbx=>hg.block b hbx (λ e=>by have:=hr b e.symm;omega)
 have key:∀ {e k n:Nat} {u:Value} {l:List Value},wx.ownsRow (gm+1) e k u n l->w.ownsRow (gm+1) e k u n l->wy.ownsRow (gm+1) e k u n l:=λ {e k n u l} h1 h2=>by
  refine h1.kept hg ?_
  cases hq:u.ownBlock with
  | none=>exact .inl rfl
  | some q=>exact .inr (λ e=>by have:=hr q e.symm;have:=(h2.lt q hq).2;omega)
 {h with
  cod:=h.cod.keep λ k hk=>kp k (by have:=hM.cod.lt;omega) (by have:=h.cod.lt;omega)
  row:=(kp gm (Xv hM.row) (Xv h.row)).trans h.row
  gl:=key h.gl hM.gl
  fn:=key h.fn hM.fn
  lo:=key h.lo hM.lo }
theorem ExW.own {w:World} {gc gm:Nat} {M:Mk} {g:Nat} {wx wy:World} {r:Option Nat} (h:ExW w gc gm M g wx) (hg:wx.grownBy wy r) (hr:∀ k,r=some k->g<k) (hM:Yg w gc gm M) (hl:gc<g):ExW w gc gm M g wy :=
 ⟨h.eg,(hg.block g h.lts (λ e=>by have:=hr g e.symm;omega)).trans h.row,h.mkr.own hM hg (λ k hk=>by have:=hr k hk;have:=h.eg;omega),
  ⟨hg.os.trans h.gr.os,hg.tape.trans h.gr.tape,hg.output.trans h.gr.output,Nat.le_trans h.gr.size hg.size,λ k hk hn=>(hg.block k (Nat.lt_of_lt_of_le hk h.gr.size) (λ e=>by have:=hr k e.symm;have:=h.eg;omega)).trans (h.gr.block k hk hn)⟩⟩
def Eq (w:World) (a:Option Addr) (ls:List Bt):Prop:=∀ j x,ls[j]?=some x->∃ b off,a=some ⟨b,off,none⟩/\b<w.heap.size/\w.cell? ⟨b,off+j,none⟩=some (.string (st x))
theorem Eq.of_own {w:World} {base n:Nat} {e:TypeId} {v:Value} {ls:List Bt} (h:w.ownsRow base e 1 v n (Zm ls)) :
  ∃ a cap,v=.slice a n cap/\ls.length=n/\n<=cap/\cap<=maxLen/\Eq w a ls:=by
 obtain⟨a,cap,rfl,h1,h2,h3,h4,h5⟩:=Yf.of_own h
 refine⟨a,cap,rfl,by simpa using h1,h2,h3,λ j x hj=>?_⟩
 have hs:(Zm ls)[j]?=some (.string (st x)):=by unfold Zm;rw[List.getElem?_map,hj];rfl
 obtain⟨b,off,e1,hb,hc⟩:=h4 (λ e=>by rw[e] at hs;cases hs)
 exact⟨b,off,e1,hb,hc _ _ hs⟩
theorem Eq.get {w:World} {base n cap j:Nat} {e:TypeId} {v:Value} {a:Option Addr} {ls:List Bt} (h:w.ownsRow base e 1 v ls.length (Zm ls)) (hv:v=.slice a n cap) (hj:j<ls.length) :
  ∃ nm b off,a=some ⟨b,off,none⟩/\b<w.heap.size/\nm∈ls/\w.cell? ⟨b,off+j,none⟩=some (.string (st nm)):=by
 obtain⟨a',cap',e1,_,_,_,hls⟩:=Eq.of_own h
 rw[hv] at e1
 injection e1 with e1 e2 e3
 subst e1
 have hx:ls[j]?=some ls[j]:=List.getElem?_eq_getElem hj
 obtain⟨b,off,e,hb,hc⟩:=hls j _ hx
 exact⟨_,b,off,e,hb,List.mem_of_getElem? hx,hc⟩
theorem Lw:okH ⟨12,0,0,0,[]⟩ .nil:=.inl ⟨rfl,rfl,.inr (.inl ⟨rfl,rfl,rfl⟩)⟩
theorem Eu {nm:Bt} (h:okN nm):okH ⟨13,0,0,0,nm⟩ .nil:=.inl ⟨rfl,rfl,.inl ⟨rfl,h,rfl⟩⟩
theorem Pb {z:Int} (h0:0<=z) (h1:z<=9223372036854775807):okH ⟨1,0,z,0,[]⟩ .nil:=.inr (.inl ⟨rfl,rfl,rfl,h0,h1,rfl⟩)
theorem Kt.nm {w:World} {gc gm:Nat} {M:Mk} {arr:Bool} {nm:Bt} (h:Kt M arr nm) (hM:Yg w gc gm M):okN nm:=by
 obtain⟨g,hg,rfl,_⟩:=h
 exact(hM.gok g hg).1
theorem Nm (gc gm d:Nat) (M:Mk) (w:World) (h:Yg w gc gm M):Calls Tryz.prog 153 #[.pointer (some ⟨gm,0,none⟩)] w (Un gc gm d w):=by
 have hx:=ExW.start h
 have HL:Xq (gc<w.heap.size):=Xj (by have:=h.lt2;omega)
 have HP:=Xj (λ W (hW:Yg W gc gm M)=>Wb gc gm M false W hW)
 have HM:=Xj h
 go_enter Tryz.func153,Tryz.ntmps153
 go_upto_region 1 with fail
 obtain⟨w1,hw1⟩:∃ w1,w.alloc zex=w1:=⟨_,rfl⟩
 rw[hw1] at hx ⊢
 obtain⟨g,hg⟩:∃ g,w.heap.size=g:=⟨_,rfl⟩
 rw[hg] at hx HL ⊢
 have HX:=Xj hx
 have hqt:=hx.mkr.lt2
 have c0:=cell_of_row _ _ 0 _ _ _ hx.mkr.row
 clear hw1 hx h hg
 go_wp2_with fail
 refine(Yq gc 6 (by omega) _ HX.o.mkr.cod).mono ?_
 rintro e w2 ⟨x,rfl,x0,x1,hH,hg⟩
 have HX2:=Xj (HX.o.grown HL.o hg hH)
 clear c0 hH hg HX hqt
 clear w1
 go_upto_block 0 with fail
 go_cut [4,5] from 13 to 48 (λ v4 v5 wx=>Xq (ExW w gc gm M g wx))
 case first =>
  by_cases e0:x=0
  ·subst e0
   obtain⟨jl,f0,f1,f2,f3,f4,f5,c0,c1,c2,c3,c4,c5⟩:=HX2.o.cells
   go_wp2_with fail
   obtain⟨q0,q1,q2,q3,q4,q5,HF⟩:=HX2.o.fin HL.o (hd:=⟨12,0,0,0,[]⟩) (ar:=.nil) (sl:=.slice none 0 0) (d:=d) (Xk.nil _ _) (Zg.leaf Lw rfl rfl (.inr (.inr (.inl rfl))) d) _ rfl
   refine bodyPost_ret (v:=exv ⟨12,0,0,0,[]⟩ (.slice none 0 0)) (by simp[results,Tryz.results153,go_sem,q0,q1,q2,q3,q4,q5]) rfl ?_
   exact HF.o
  have d0:(x==0)=false:=by rw[beq_eq_false_iff_ne];exact e0
  by_cases e1:x=1
  ·subst e1
   clear d0
   go_wp2_with fail
   refine(HP.o _ HX2.o.mkr).mono ?_
   rintro e w3 ⟨nm,ok,rfl,hpk,hH,hg⟩
   have HX3:=Xj (HX2.o.grown HL.o hg hH)
   cases ok
   ·clear hpk hg hH
    go_wp2_with fail
    go_meet
    exact HX3
   have HOK:=Xj ((hpk rfl).nm HM.o)
   clear hpk hg hH
   obtain⟨jl,f0,f1,f2,f3,f4,f5,c0,c1,c2,c3,c4,c5⟩:=HX3.o.cells
   go_wp2_with fail
   obtain⟨q0,q1,q2,q3,q4,q5,HF⟩:=HX3.o.fin HL.o (hd:=⟨13,0,0,0,nm⟩) (ar:=.nil) (sl:=.slice none 0 0) (d:=d) (Xk.nil _ _) (Zg.leaf (Eu HOK.o) rfl rfl (.inr (.inl rfl)) d) _ rfl
   refine bodyPost_ret (v:=exv ⟨13,0,0,0,nm⟩ (.slice none 0 0)) (by simp[results,Tryz.results153,go_sem,q0,q1,q2,q3,q4,q5]) rfl ?_
   exact HF.o
  have d1:(x==1)=false:=by rw[beq_eq_false_iff_ne];exact e1
  by_cases e2:x=2\/x=3
  ·clear e0 e1 x0 x1
   rcases e2 with rfl|rfl
   ·clear d0 d1
    obtain⟨al,cl,hvl,hll,hxm,hkv,hls⟩:=Eq.of_own HX2.o.mkr.lo
    have hln:=HX2.o.mkr.ln
    have Hi:=HX2.o.mkr.row
    have HMB:Xq (gc<gm/\gm<g):=Xj ⟨HX2.o.mkr.lt,by rw[HX2.o.eg];exact Xv HM.o.row⟩
    rw[hvl] at Hi
    have c0:=cell_of_row _ _ 0 _ _ _ Hi
    have c3:=cell_of_row _ _ 3 _ _ _ Hi
    have hgm:=Xv Hi
    have HVL:=Xj hvl
    obtain⟨n,hn⟩:∃ n,M.ls.length=n:=⟨_,rfl⟩
    rw[hn] at c0 c3 hln hxm
    have HN:=Xj hn
    clear hn Hi hvl hll
    have HLS:=Xj hls
    clear hls
    by_cases hn0:n=0
    ·subst hn0
     clear HLS
     go_wp2_with fail
     go_meet
     exact HX2
    have hn1:(0:Int)<(n:Int):=by omega
    have dn:decide ((0:Int)<(n:Int))=true:=by rw[decide_eq_true_iff];exact hn1
    obtain⟨_,bl,ol,hal,hbl,_,_⟩:=Eq.get (j:=0) HM.o.lo HVL.o (by rw[HN.o];omega)
    subst hal
    have HBL:Xq (bl<g/\gc<bl):=Xj ⟨by rw[HX2.o.eg];exact hbl,by
     have:=(HX2.o.mkr.lo.lt bl (by rw[HVL.o];rfl)).1
     have:=HMB.o;omega⟩
    clear hbl
    have HRW:Xq (∀ W,w2.grownBy W (some gc)->W.cell? ⟨gm,0,none⟩=some (.pointer (some ⟨gc,0,none⟩))/\W.cell? ⟨gm,3,none⟩=some (.slice (some ⟨bl,ol,none⟩) n cl)/\∀ j x,M.ls[j]?=some x->W.cell? ⟨bl,ol+j,none⟩=some (.string (st x))):=Xj (λ W hW=>⟨hW.cell c0 (by simp;have:=HMB.o;omega),hW.cell c3 (by simp;have:=HMB.o;omega),λ j x hj=>by
     obtain⟨b',o',e1,_,hc⟩:=HLS.o j x hj
     injection e1 with e1
     injection e1 with e1 e2
     subst e1 e2
     exact hW.cell hc (by simp;have:=HBL.o;omega)⟩)
    go_upto_region 12 with fail
    refine wp_region_held_drew (S:=(λ w'=>w'.cell? ⟨gm,0,none⟩=some (.pointer (some ⟨gc,0,none⟩))/\w'.cell? ⟨gm,3,none⟩=some (.slice (some ⟨bl,ol,none⟩) n cl)/\∀ j x,M.ls[j]?=some x->w'.cell? ⟨bl,ol+j,none⟩=some (.string (st x)))) (by kernel_rfl) (HRW.o _ (Xt w2 1 _)) (λ hJ=>?_)
    refine tkH 0 35 ?_
    refine tkH 1 36 ?_
    refine tkH 2 37 ?_
    refine tkH 3 38 ?_
    refine tkH 4 39 ?_
    refine tkH 5 40 ?_
    refine tkH 6 41 ?_
    refine tkH 7 42 ?_
    refine tkH 8 43 ?_
    refine tkH 9 44 ?_
    refine rdH 10 λ K hK=>?_
    go_simp
    refine(Yq gc n (by omega) _ HX2.o.mkr.cod.drew).mono ?_
    rintro e wy ⟨y,rfl,y0,y1,hH,hg0⟩
    obtain⟨y,rfl⟩:=Int.eq_ofNat_of_zero_le y0
    have y2:y<n:=by omega
    have hg:=Xb (Xt w2 1 (some gc)) hg0
    clear hg0
    have HX3:=Xj (HX2.o.grown HL.o hg hH)
    refine goH hK (HRW.o _ hg) λ hJ=>?_
    clear hK K
    have hy3:(y:Int)<(n:Int):=by omega
    obtain⟨nm,hnm⟩:∃ nm,M.ls[y]?=some nm:=⟨_,List.getElem?_eq_getElem (by rw[HN.o];exact y2)⟩
    have HNM:Xq (okN nm):=Xj (HX3.o.mkr.lok nm (List.mem_of_getElem? hnm))
    clear hg hH y1
    refine tkH 11 46 ?_
    refine Xr (i:=12) (d:=some 47) (v:=.string (st nm)) rfl (by kernel_rfl) (by kernel_rfl) (by kernel_rfl) (by kernel_rfl) (λ _ _ _ h=>h) (Or.inl ⟨by kernel_rfl,?_⟩) (by assumption) ?_
    ·(intro w hSw;have hcx:=hSw.2.2 y nm hnm;go_simp;try with_reducible rfl)
    refine Xz ?_
    refine tkH 13 48 ?_
    obtain⟨jl,f0,f1,f2,f3,f4,f5,r0,r1,r2,r3,r4,r5⟩:=HX3.o.cells
    refine rdH 14 λ K hK=>?_
    go_simp
    refine goH hK ⟨Xm (by have:=HMB.o;omega) hJ.1,Xm (by have:=HMB.o;omega) hJ.2.1,λ j x hj=>Xm (by have:=HBL.o;omega) (hJ.2.2 j x hj)⟩ λ hJ=>?_
    clear hK K
    refine wpAnyH_done (by kernel_rfl) ?_ _
    go_wp2_with fail
    obtain⟨q0,q1,q2,q3,q4,q5,HF⟩:=HX3.o.fin HL.o (hd:=⟨13,0,0,0,nm⟩) (ar:=.nil) (sl:=.slice none 0 0) (d:=d) (Xk.nil _ _) (Zg.leaf (Eu HNM.o) rfl rfl (.inr (.inl rfl)) d) _ rfl
    refine bodyPost_ret (v:=exv ⟨13,0,0,0,nm⟩ (.slice none 0 0)) (by simp[results,Tryz.results153,go_sem,q0,q1,q2,q3,q4,q5]) rfl ?_
    exact HF.o
   clear d0 d1
   obtain⟨al,cl,hvl,hll,hxm,hkv,hls⟩:=Eq.of_own HX2.o.mkr.lo
   have hln:=HX2.o.mkr.ln
   have Hi:=HX2.o.mkr.row
   have HMB:Xq (gc<gm/\gm<g):=Xj ⟨HX2.o.mkr.lt,by rw[HX2.o.eg];exact Xv HM.o.row⟩
   rw[hvl] at Hi
   have c0:=cell_of_row _ _ 0 _ _ _ Hi
   have c3:=cell_of_row _ _ 3 _ _ _ Hi
   have hgm:=Xv Hi
   have HVL:=Xj hvl
   obtain⟨n,hn⟩:∃ n,M.ls.length=n:=⟨_,rfl⟩
   rw[hn] at c0 c3 hln hxm
   have HN:=Xj hn
   clear hn Hi hvl hll
   have HLS:=Xj hls
   clear hls
   by_cases hn0:n=0
   ·subst hn0
    clear HLS
    go_wp2_with fail
    go_meet
    exact HX2
   have hn1:(0:Int)<(n:Int):=by omega
   have dn:decide ((0:Int)<(n:Int))=true:=by rw[decide_eq_true_iff];exact hn1
   obtain⟨_,bl,ol,hal,hbl,_,_⟩:=Eq.get (j:=0) HM.o.lo HVL.o (by rw[HN.o];omega)
   subst hal
   have HBL:Xq (bl<g/\gc<bl):=Xj ⟨by rw[HX2.o.eg];exact hbl,by
    have:=(HX2.o.mkr.lo.lt bl (by rw[HVL.o];rfl)).1
    have:=HMB.o;omega⟩
   clear hbl
   have HRW:Xq (∀ W,w2.grownBy W (some gc)->W.cell? ⟨gm,0,none⟩=some (.pointer (some ⟨gc,0,none⟩))/\W.cell? ⟨gm,3,none⟩=some (.slice (some ⟨bl,ol,none⟩) n cl)/\∀ j x,M.ls[j]?=some x->W.cell? ⟨bl,ol+j,none⟩=some (.string (st x))):=Xj (λ W hW=>⟨hW.cell c0 (by simp;have:=HMB.o;omega),hW.cell c3 (by simp;have:=HMB.o;omega),λ j x hj=>by
    obtain⟨b',o',e1,_,hc⟩:=HLS.o j x hj
    injection e1 with e1
    injection e1 with e1 e2
    subst e1 e2
    exact hW.cell hc (by simp;have:=HBL.o;omega)⟩)
   go_upto_region 12 with fail
   refine wp_region_held_drew (S:=(λ w'=>w'.cell? ⟨gm,0,none⟩=some (.pointer (some ⟨gc,0,none⟩))/\w'.cell? ⟨gm,3,none⟩=some (.slice (some ⟨bl,ol,none⟩) n cl)/\∀ j x,M.ls[j]?=some x->w'.cell? ⟨bl,ol+j,none⟩=some (.string (st x)))) (by kernel_rfl) (HRW.o _ (Xt w2 1 _)) (λ hJ=>?_)
   refine tkH 0 35 ?_
   refine tkH 1 36 ?_
   refine tkH 2 37 ?_
   refine tkH 3 38 ?_
   refine tkH 4 39 ?_
   refine tkH 5 40 ?_
   refine tkH 6 41 ?_
   refine tkH 7 42 ?_
   refine tkH 8 43 ?_
   refine tkH 9 44 ?_
   refine rdH 10 λ K hK=>?_
   go_simp
   refine(Yq gc n (by omega) _ HX2.o.mkr.cod.drew).mono ?_
   rintro e wy ⟨y,rfl,y0,y1,hH,hg0⟩
   obtain⟨y,rfl⟩:=Int.eq_ofNat_of_zero_le y0
   have y2:y<n:=by omega
   have hg:=Xb (Xt w2 1 (some gc)) hg0
   clear hg0
   have HX3:=Xj (HX2.o.grown HL.o hg hH)
   refine goH hK (HRW.o _ hg) λ hJ=>?_
   clear hK K
   have hy3:(y:Int)<(n:Int):=by omega
   obtain⟨nm,hnm⟩:∃ nm,M.ls[y]?=some nm:=⟨_,List.getElem?_eq_getElem (by rw[HN.o];exact y2)⟩
   have HNM:Xq (okN nm):=Xj (HX3.o.mkr.lok nm (List.mem_of_getElem? hnm))
   clear hg hH y1
   refine tkH 11 46 ?_
   refine Xr (i:=12) (d:=some 47) (v:=.string (st nm)) rfl (by kernel_rfl) (by kernel_rfl) (by kernel_rfl) (by kernel_rfl) (λ _ _ _ h=>h) (Or.inl ⟨by kernel_rfl,?_⟩) (by assumption) ?_
   ·(intro w hSw;have hcx:=hSw.2.2 y nm hnm;go_simp;try with_reducible rfl)
   refine Xz ?_
   refine tkH 13 48 ?_
   obtain⟨jl,f0,f1,f2,f3,f4,f5,r0,r1,r2,r3,r4,r5⟩:=HX3.o.cells
   refine rdH 14 λ K hK=>?_
   go_simp
   refine goH hK ⟨Xm (by have:=HMB.o;omega) hJ.1,Xm (by have:=HMB.o;omega) hJ.2.1,λ j x hj=>Xm (by have:=HBL.o;omega) (hJ.2.2 j x hj)⟩ λ hJ=>?_
   clear hK K
   refine wpAnyH_done (by kernel_rfl) ?_ _
   go_wp2_with fail
   obtain⟨q0,q1,q2,q3,q4,q5,HF⟩:=HX3.o.fin HL.o (hd:=⟨13,0,0,0,nm⟩) (ar:=.nil) (sl:=.slice none 0 0) (d:=d) (Xk.nil _ _) (Zg.leaf (Eu HNM.o) rfl rfl (.inr (.inl rfl)) d) _ rfl
   refine bodyPost_ret (v:=exv ⟨13,0,0,0,nm⟩ (.slice none 0 0)) (by simp[results,Tryz.results153,go_sem,q0,q1,q2,q3,q4,q5]) rfl ?_
   exact HF.o
  have d2:(x==2)=false:=by rw[beq_eq_false_iff_ne];omega
  have d3:(x==3)=false:=by rw[beq_eq_false_iff_ne];omega
  clear e0 e1 e2
  go_wp2_with fail
  go_meet
  exact HX2
 have HX:=hcut
 clear HX2 hcut
 go_wp2_with fail
 refine(Yq gc 5 (by omega) _ HX.o.mkr.cod).mono ?_
 rintro e w3 ⟨y,rfl,y0,y1,hH,hg⟩
 have HX3:=Xj (HX.o.grown HL.o hg hH)
 clear hg hH HX
 go_wp2_with fail
 refine(Yq gc 12 (by omega) _ HX3.o.mkr.cod).mono ?_
 rintro e w4 ⟨z,rfl,z0,z1,hH,hg⟩
 have HX4:=Xj (HX3.o.grown HL.o hg hH)
 have y2:y<5:=by omega
 clear hg hH HX3 y1
 by_cases ez:z=11
 ·subst ez
  clear z0 z1
  go_wp2_with fail
  have hb5:=Xw w4 (.cells #[.int .i64 9223372036854775807,.int .i64 2147483648,.int .i64 1000,.int .i64 64] 3)
  have hqu:=heap_alloc_new w4 (.cells #[.int .i64 9223372036854775807,.int .i64 2147483648,.int .i64 1000,.int .i64 64] 3)
  have HX5:=Xj (HX4.o.below hb5)
  have HNE:Xq (gc<w4.heap.size):=Xj (by have:=HX4.o.lts;have:=HL.o;omega)
  obtain⟨w5,hw5⟩:∃ w5,w4.alloc (.cells #[.int .i64 9223372036854775807,.int .i64 2147483648,.int .i64 1000,.int .i64 64] 3)=w5:=⟨_,rfl⟩
  obtain⟨g5,hg5⟩:∃ g5,w4.heap.size=g5:=⟨_,rfl⟩
  rw[hw5] at HX5 hqu ⊢
  rw[hg5] at hqu HNE ⊢
  clear hb5 hw5 hg5 HX4
  clear w4
  refine(Yq gc 4 (by omega) _ HX5.o.mkr.cod).mono ?_
  rintro e w6 ⟨z,rfl,z0,z1,hH,hg⟩
  have HX6:=Xj (HX5.o.grown HL.o hg hH)
  have hb6:=(hg.block g5 (Xv hqu) (λ e=>by injection e with e;have:=HNE.o;omega)).trans hqu
  clear hH hg hqu HX5
  clear w5
  have z2:z<4:=by omega
  obtain⟨z,rfl⟩:=Int.eq_ofNat_of_zero_le z0
  obtain⟨u,hu,hu0,hu1⟩:∃ u:Int,w6.cell? ⟨g5,z,none⟩=some (.int .i64 u)/\0<=u/\u<=9223372036854775807:=by
   rw[cell_of_row w6 g5 z _ _ _ hb6]
   have:z=0\/z=1\/z=2\/z=3:=by omega
   rcases this with rfl|rfl|rfl|rfl<;>exact⟨_,rfl,by omega,by omega⟩
  clear hb6 z1
  obtain⟨jl,f0,f1,f2,f3,f4,f5,c0,c1,c2,c3,c4,c5⟩:=HX6.o.cells
  go_wp2_with fail
  obtain⟨q0,q1,q2,q3,q4,q5,HF⟩:=HX6.o.fin HL.o (hd:=⟨1,0,u,0,[]⟩) (ar:=.nil) (sl:=.slice none 0 0) (d:=d) (Xk.nil _ _) (Zg.leaf (Pb hu0 hu1) rfl rfl (.inl rfl) d) _ rfl
  refine bodyPost_ret (v:=exv ⟨1,0,u,0,[]⟩ (.slice none 0 0)) (by simp[results,Tryz.results153,go_sem,q0,q1,q2,q3,q4,q5]) rfl ?_
  exact HF.o
 have dz:(z==11)=false:=by rw[beq_eq_false_iff_ne];exact ez
 obtain⟨jl,f0,f1,f2,f3,f4,f5,c0,c1,c2,c3,c4,c5⟩:=HX4.o.cells
 go_wp2_with fail
 obtain⟨q0,q1,q2,q3,q4,q5,HF⟩:=HX4.o.fin HL.o (hd:=⟨1,0,y,0,[]⟩) (ar:=.nil) (sl:=.slice none 0 0) (d:=d) (Xk.nil _ _) (Zg.leaf (Pb y0 (by omega)) rfl rfl (.inl rfl) d) _ rfl
 refine bodyPost_ret (v:=exv ⟨1,0,y,0,[]⟩ (.slice none 0 0)) (by simp[results,Tryz.results153,go_sem,q0,q1,q2,q3,q4,q5]) rfl ?_
 exact HF.o
def Kj (w:World) (b:Nat) (fs:List Fr):Prop:=∀ j f,fs[j]?=some f->w.cell? ⟨b,j*4,none⟩=some (.string (st f.nm))/\w.cell? ⟨b,j*4+1,none⟩=some (.int .i64 0)/\w.cell? ⟨b,j*4+2,none⟩=some (.slice f.pa f.pn f.pc)/\w.cell? ⟨b,j*4+3,none⟩=some (.slice f.ba f.bn f.bc)
theorem Kj.of_own {w:World} {base:Nat} {e:TypeId} {v:Value} {fs:List Fr} (h:w.ownsRow base e 4 v fs.length (frc fs)) (hn:0<fs.length) :
  ∃ b cap,v=.slice (some ⟨b,0,none⟩) fs.length cap/\fs.length<=cap/\cap<=maxLen/\base<=b/\b<w.heap.size/\Kj w b fs:=by
 have hne:frc fs≠[]:=λ e=>by have:=Ln fs;rw[e] at this;simp at this;omega
 obtain⟨g,cap,rfl,hb,hl,h1,h2,_,hc⟩:=Kw h hne
 refine⟨g,cap,rfl,h1,h2,hb,hl,λ j f hj=>?_⟩
 obtain⟨g1,g2,g3,g4⟩:=Sz fs j f hj
 exact⟨hc _ _ g1,hc _ _ g2,hc _ _ g3,hc _ _ g4⟩
theorem Kj.kept {w w':World} {b:Nat} {fs:List Fr} (h:Kj w b fs) (hb:w'.heap[b]?=w.heap[b]?):Kj w' b fs:=λ j f hj=>by
 obtain⟨h1,h2,h3,h4⟩:=h j f hj
 exact⟨(World.cell?_of_block (a:=⟨b,j*4,none⟩) hb).trans h1,(World.cell?_of_block (a:=⟨b,j*4+1,none⟩) hb).trans h2,(World.cell?_of_block (a:=⟨b,j*4+2,none⟩) hb).trans h3,(World.cell?_of_block (a:=⟨b,j*4+3,none⟩) hb).trans h4⟩
theorem okH.nm13 {h:Hd} {ar:Fo} (k:okH h ar) (e:h.k=13):okN h.nm:=by
 rcases k with⟨_,_,k⟩|⟨_,k,_⟩|⟨_,_,k⟩
 ·rcases k with⟨_,k,_⟩|⟨k,_⟩|⟨k,_⟩|⟨k,_⟩|⟨k,_⟩|⟨k,_⟩|⟨k,_⟩
  ·exact k
  all_goals omega
 ·omega
 omega
def Mf (gc gm d:Nat) (w:World) (e:Ending) (w':World):Prop:=Un gc gm d w e w'/\∃ h sl,e=.returned (exv h sl)/\(h.k=9\/h.k=10)
abbrev Pd (f:Fr):Obj:=.cells #[.string (st f.nm),.int .i64 0,.slice f.pa f.pn f.pc,(.slice f.ba f.bn f.bc)] 63 (0,0)
theorem Mx (gc gm d:Nat) (M:Mk) (hfw:d<=1000) (HE:∀ W,Yg W gc gm M->Calls Tryz.prog 120 #[.pointer (some ⟨gm,0,none⟩),.int .i64 (d:Int)] W (Un gc gm d W)) (w:World) (h:Yg w gc gm M):Calls Tryz.prog 123 #[.pointer (some ⟨gm,0,none⟩),.int .i64 ((d:Int)+1)] w (Mf gc gm (d+1) w):=by
 have hx:=ExW.start h
 have HEX:=Xj HE
 clear HE
 have HL:Xq (gc<w.heap.size):=Xj (by have:=h.lt2;omega)
 have HM:=Xj h
 go_enter Tryz.func123,Tryz.ntmps123
 go_upto_region 1 with fail
 obtain⟨w1,hw1⟩:∃ w1,w.alloc zex=w1:=⟨_,rfl⟩
 rw[hw1] at hx ⊢
 obtain⟨g,hg⟩:∃ g,w.heap.size=g:=⟨_,rfl⟩
 rw[hg] at hx HL ⊢
 have HX:=Xj hx
 have HGM:Xq (gm<g):=Xj (by rw[<- hg];exact Xv h.row)
 clear hw1 hx h hg
 go_cut [5] from 11 to 28 (λ v5 wx=>∃ (g5:Nat) (f:Fr),v5=.pointer (some ⟨g5,0,none⟩)/\Xq (f∈M.fs)/\Xq (ExW w gc gm M g wx/\wx.heap[g5]?=some (Pd f)/\g<g5))
 case first =>
  have Hi:=HX.o.mkr.row
  have hfn1:=HX.o.mkr.fn1
  obtain⟨bf,cf,hvb,hbk,hfc2,hyn,hyr,hfr⟩:=Kj.of_own HX.o.mkr.fn hfn1
  rw[hvb] at Hi
  have HBF:Xq (gc<bf/\bf<g):=Xj ⟨by have:=HX.o.mkr.lt;omega,by
   have:=(HM.o.fn.lt bf (by rw[hvb];rfl)).2
   have:=HX.o.eg;omega⟩
  have c0:=cell_of_row _ _ 0 _ _ _ Hi
  have c2:=cell_of_row _ _ 2 _ _ _ Hi
  have HMB:Xq (gc<gm):=Xj HX.o.mkr.lt
  have hn4:=HX.o.mkr.fn2
  obtain⟨n,hn⟩:∃ n,M.fs.length=n:=⟨_,rfl⟩
  rw[hn] at c0 c2 hbk hn4 hfn1
  have HN:=Xj hn
  have HFR:=Xj hfr
  clear hn Hi hvb hfr hyn hyr
  have HRW:Xq (∀ W,w1.grownBy W (some gc)->W.cell? ⟨gm,0,none⟩=some (.pointer (some ⟨gc,0,none⟩))/\W.cell? ⟨gm,2,none⟩=some (.slice (some ⟨bf,0,none⟩) n cf)/\Kj W bf M.fs):=Xj (λ W hW=>⟨hW.cell c0 (by simp;have:=HMB.o;omega),hW.cell c2 (by simp;have:=HMB.o;omega),HFR.o.kept (hW.block bf (by have:=HBF.o;have:=HX.o.lts;omega) (by simp;have:=HBF.o;omega))⟩)
  refine wp_region_held_drew (S:=(λ w'=>w'.cell? ⟨gm,0,none⟩=some (.pointer (some ⟨gc,0,none⟩))/\w'.cell? ⟨gm,2,none⟩=some (.slice (some ⟨bf,0,none⟩) n cf)/\Kj w' bf M.fs)) (by kernel_rfl) (HRW.o _ (Xt w1 1 _)) (λ hJ=>?_)
  refine tkH 0 11 ?_
  refine tkH 1 12 ?_
  refine tkH 2 13 ?_
  refine tkH 3 14 ?_
  refine tkH 4 15 ?_
  refine tkH 5 16 ?_
  refine tkH 6 17 ?_
  refine tkH 7 18 ?_
  refine tkH 8 19 ?_
  refine tkH 9 20 ?_
  refine tkH 10 21 ?_
  refine tkH 11 22 ?_
  refine tkH 12 23 ?_
  refine tkH 13 24 ?_
  refine tkH 14 25 ?_
  refine wpAnyH_ready (rs:=[15,18]) (by kernel_rfl) (by simp) ?_
  refine AllReadyH.cons rfl (λ K hK=>?_) (AllReadyH.cons rfl (λ K hK=>?_) AllReadyH.nil)
  ·go_simp
   refine(Yq gc n (by omega) _ HX.o.mkr.cod.drew).mono ?_
   rintro e wy ⟨y,rfl,y0,y1,hH,hg0⟩
   obtain⟨y,rfl⟩:=Int.eq_ofNat_of_zero_le y0
   have y2:y<n:=by omega
   have hy3:(y:Int)<(n:Int):=by omega
   obtain⟨f,hf⟩:∃ f,M.fs[y]?=some f:=⟨_,List.getElem?_eq_getElem (by rw[HN.o];exact y2)⟩
   have HF:Xq (f∈M.fs):=Xj (List.mem_of_getElem? hf)
   have hg:=Xb (Xt w1 1 (some gc)) hg0
   clear hg0
   have HX3:=Xj (HX.o.grown HL.o hg hH)
   refine goH hK (HRW.o _ hg) λ hJ=>?_
   clear hK K y1 hH
   refine tkH 16 27 ?_
   refine Xr (i:=17) (d:=some 28) (v:=.agg #[.string (st f.nm),.int .i64 0,.slice f.pa f.pn f.pc,(.slice f.ba f.bn f.bc)]) rfl (by kernel_rfl) (by kernel_rfl) (by kernel_rfl) (by kernel_rfl) (λ _ _ _ h=>h) (Or.inl ⟨by kernel_rfl,?_⟩) (by assumption) ?_
   ·(intro w hSw;obtain⟨p0,p1,p2,p3⟩:=hSw.2.2 y f hf;go_simp;try with_reducible rfl)
   refine Xz ?_
   refine rdH 18 λ K hK=>?_
   go_simp
   have hg2:=Xb hg (Xg (Xw wy (.cells #[.string { data := #[] },.int .i64 0,.slice none 0 0,.slice none 0 0] 63)) (some gc))
   refine goH hK (HRW.o _ hg2) λ hJ=>?_
   clear hK K
   have hb5:=heap_alloc_new wy (.cells #[.string { data := #[] },.int .i64 0,.slice none 0 0,.slice none 0 0] 63)
   have HX4:=Xj (HX3.o.below (Xw wy (.cells #[.string { data := #[] },.int .i64 0,.slice none 0 0,.slice none 0 0] 63)))
   have HG5:Xq (g<wy.heap.size):=Xj HX3.o.lts
   obtain⟨w5,hw5⟩:∃ w5,wy.alloc (.cells #[.string { data := #[] },.int .i64 0,.slice none 0 0,.slice none 0 0] 63)=w5:=⟨_,rfl⟩
   obtain⟨g5,hg5⟩:∃ g5,wy.heap.size=g5:=⟨_,rfl⟩
   rw[hw5] at hb5 HX4 hg2 hJ ⊢
   rw[hg5] at hb5 HG5 ⊢
   clear hw5 hg5 hg HX3
   obtain⟨p0,p1,p2,p3⟩:=Ej hb5
   obtain⟨jl,s0,s1,s2,s3⟩:=On hb5
   refine rdH 19 λ K hK=>?_
   go_simp
   refine goH hK ⟨Xf (b:=g5) (b':=gm) (by have:=HG5.o;have:=HGM.o;omega) hJ.1,Xf (b:=g5) (b':=gm) (by have:=HG5.o;have:=HGM.o;omega) hJ.2.1,hJ.2.2.kept (Ed bf (by have:=HG5.o;have:=HBF.o;omega))⟩ λ hJ=>?_
   clear hK K
   refine wpAnyH_done (by kernel_rfl) ?_ _
   go_wp2_with fail
   go_meet
   exact⟨g5,f,rfl,HF,Xj ⟨HX4.o.set4 HL.o HGM.o HG5.o HM.o,Yd hb5,HG5.o⟩⟩
  go_simp
  have hb5:=heap_alloc_new w1 (.cells #[.string { data := #[] },.int .i64 0,.slice none 0 0,.slice none 0 0] 63)
  have hg1:=Xb (Xg (Xw w1 (.cells #[.string { data := #[] },.int .i64 0,.slice none 0 0,.slice none 0 0] 63)) (some gc)) (Xt (w1.alloc (.cells #[.string { data := #[] },.int .i64 0,.slice none 0 0,.slice none 0 0] 63)) 1 (some gc))
  refine goH hK (HRW.o _ hg1) λ hJ=>?_
  clear hK K
  have HX3:=Xj (HX.o.grown HL.o hg1 ((HX.o.mkr.cod.alloc (.cells #[.string { data := #[] },.int .i64 0,.slice none 0 0,.slice none 0 0] 63)).drew))
  have HG5:Xq (g<w1.heap.size):=Xj HX.o.lts
  obtain⟨w5,hw5⟩:∃ w5,(w1.alloc (.cells #[.string { data := #[] },.int .i64 0,.slice none 0 0,.slice none 0 0] 63)).drew=w5:=⟨_,rfl⟩
  obtain⟨g5,hg5⟩:∃ g5,w1.heap.size=g5:=⟨_,rfl⟩
  have hb6:w5.heap[g5]?=some (.cells #[.string { data := #[] },.int .i64 0,.slice none 0 0,.slice none 0 0] 63 (0,0)):=by rw[<- hw5,<- hg5];exact hb5
  clear hb5
  have hb5:=hb6
  clear hb6
  rw[show (w1.alloc (.cells #[.string { data := #[] },.int .i64 0,.slice none 0 0,.slice none 0 0] 63)).drewN 1=w5 from hw5] at HX3 hg1
  rw[hw5] at hJ ⊢
  rw[hg5] at HG5
  (try rw[hg5])
  clear hw5 hg5
  refine rdH 15 λ K hK=>?_
  go_simp
  refine(Yq gc n (by omega) _ HX3.o.mkr.cod).mono ?_
  rintro e wy ⟨y,rfl,y0,y1,hH,hg0⟩
  obtain⟨y,rfl⟩:=Int.eq_ofNat_of_zero_le y0
  have y2:y<n:=by omega
  have hy3:(y:Int)<(n:Int):=by omega
  obtain⟨f,hf⟩:∃ f,M.fs[y]?=some f:=⟨_,List.getElem?_eq_getElem (by rw[HN.o];exact y2)⟩
  have HF:Xq (f∈M.fs):=Xj (List.mem_of_getElem? hf)
  have hg:=Xb hg1 hg0
  have hb6:=(hg0.block g5 (Xv hb5) (by simp;have:=HG5.o;have:=HL.o;omega)).trans hb5
  have HX4:=Xj (HX3.o.grown HL.o hg0 hH)
  refine goH hK (HRW.o _ hg) λ hJ=>?_
  clear hK K y1 hH hg0 hb5
  have hb5:=hb6
  clear hb6
  refine tkH 16 27 ?_
  refine Xr (i:=17) (d:=some 28) (v:=.agg #[.string (st f.nm),.int .i64 0,.slice f.pa f.pn f.pc,(.slice f.ba f.bn f.bc)]) rfl (by kernel_rfl) (by kernel_rfl) (by kernel_rfl) (by kernel_rfl) (λ _ _ _ h=>h) (Or.inl ⟨by kernel_rfl,?_⟩) (by assumption) ?_
  ·(intro w hSw;obtain⟨p0,p1,p2,p3⟩:=hSw.2.2 y f hf;go_simp;try with_reducible rfl)
  refine Xz ?_
  obtain⟨p0,p1,p2,p3⟩:=Ej hb5
  obtain⟨jl,s0,s1,s2,s3⟩:=On hb5
  refine rdH 19 λ K hK=>?_
  go_simp
  refine goH hK ⟨Xf (b:=g5) (b':=gm) (by have:=HG5.o;have:=HGM.o;omega) hJ.1,Xf (b:=g5) (b':=gm) (by have:=HG5.o;have:=HGM.o;omega) hJ.2.1,hJ.2.2.kept (Ed bf (by have:=HG5.o;have:=HBF.o;omega))⟩ λ hJ=>?_
  clear hK K
  refine wpAnyH_done (by kernel_rfl) ?_ _
  go_wp2_with fail
  go_meet
  exact⟨g5,f,rfl,HF,Xj ⟨HX4.o.set4 HL.o HGM.o HG5.o HM.o,Yd hb5,HG5.o⟩⟩
 obtain⟨g5,f,rfl,HF,HY⟩:=hcut
 clear HX
 have hpn:=(HM.o.fok f HF.o).2
 have HKP:Xq (∀ wx wy:World,ExW w gc gm M g wx/\wx.heap[g5]?=some (Pd f)/\g<g5->wx.grownBy wy (some gc)->Cod wy gc->ExW w gc gm M g wy/\wy.heap[g5]?=some (Pd f)/\g<g5):=Xj (λ wx wy h hg hc=>⟨h.1.grown HL.o hg hc,(hg.block g5 (Xv h.2.1) (by simp;have:=HL.o;omega)).trans h.2.1,h.2.2⟩)
 have HC0:Xq (∀ wx:World,ExW w gc gm M g wx->wx.cell? ⟨gm,0,none⟩=some (.pointer (some ⟨gc,0,none⟩))):=Xj (λ wx h=>cell_of_row _ _ 0 _ _ _ h.mkr.row)
 obtain⟨p0,p1,p2,p3⟩:=Ej HY.o.2.1
 have c0:=HC0.o _ HY.o.1
 go_wp2_with fail
 refine(Yq gc 3 (by omega) _ HY.o.1.mkr.cod).mono ?_
 rintro e w2 ⟨x,rfl,x0,x1,hH,hg⟩
 have HY2:=Xj (HKP.o _ _ HY.o hg hH)
 clear p0 p1 p2 p3 c0 hH hg HY x0 x1
 clear wc
 go_upto_region 4 with fail
 obtain⟨bv,hbv⟩:∃ b,(x==2)=b:=⟨_,rfl⟩
 rw[hbv]
 clear hbv
 go_cut [46] from 38 to 46 (λ v46 wx=>∃ b46,v46=.bool b46/\Xq (ExW w gc gm M g wx/\wx.heap[g5]?=some (Pd f)/\g<g5))
 case first =>
  cases bv
  ·go_wp2_with fail
   go_meet
   exact⟨false,rfl,HY2⟩
  have c0:=HC0.o _ HY2.o.1
  go_wp2_with fail
  refine(Yq gc 8 (by omega) _ HY2.o.1.mkr.cod).mono ?_
  rintro e w3 ⟨y,rfl,y0,y1,hH,hg⟩
  have HY3:=Xj (HKP.o _ _ HY2.o hg hH)
  clear hH hg c0
  obtain⟨b7,hb7⟩:∃ b,(y==7)=b:=⟨_,rfl⟩
  go_wp2_with fail
  go_meet
  exact⟨b7,by rw[<- hb7],HY3⟩
 case rest =>
 clear HY2
 clear w2
 obtain⟨b46,rfl,HY2⟩:=hcut
 go_upto_if 46 with fail
 go_cut [6] from 47 to 51 (λ v6 wx=>∃ n:Nat,v6=.int .i64 n/\n<=2/\Xq (ExW w gc gm M g wx/\wx.heap[g5]?=some (Pd f)/\g<g5))
 case first =>
  cases b46
  ·go_wp2_with fail
   go_meet
   exact⟨f.pn,rfl,hpn,HY2⟩
  have c0:=HC0.o _ HY2.o.1
  go_wp2_with fail
  refine(Yq gc 3 (by omega) _ HY2.o.1.mkr.cod).mono ?_
  rintro e w4 ⟨z,rfl,z0,z1,hH,hg⟩
  have HY4:=Xj (HKP.o _ _ HY2.o hg hH)
  clear hH hg c0
  obtain⟨z,rfl⟩:=Int.eq_ofNat_of_zero_le z0
  go_wp2_with fail
  go_meet
  exact⟨z,rfl,by omega,HY4⟩
 clear HY2
 obtain⟨n,rfl,hn2,HY⟩:=hcut
 obtain⟨i0,hi0,hz0,hz1,hz2⟩:=info_parts Tryz.infoExpr
 have HI:=Xj hi0
 have HZ0:=Xj hz0
 have HZ1:=Xj hz1
 have HZ2:=Xj hz2
 clear hi0 hz0 hz1 hz2
 go_upto_block 0 with fail
 go_wp2_with fail
 go_loopw [8,9] (λ v8 v9 wr=>∃ (i:Nat) (F:Fo) (xs:List Value),v9=.int .i64 i/\i<=n/\Xq (F.len=i/\Zs d F/\(ExW w gc gm M g wr/\wr.heap[g5]?=some (Pd f)/\g<g5)/\wr.ownsRow (g5+1) 37 6 v8 i xs/\Ys wr (λ b=>g5<b/\some b≠v8.ownBlock) F xs)) (λ _ v9 _=>n-(intOf v9).toNat)
 case atStart=>exact⟨0,.nil,[],rfl,by omega,Xj ⟨rfl,Zs.nil d,HY.o,World.ownsRow_nil _ _ _ _,rfl⟩⟩
 clear HY
 obtain⟨i,F,xs,rfl,hi,HR⟩:=hrel
 by_cases hlt:i<n
 ·go_wp2_with fail
  refine(HEX.o _ HR.o.2.2.1.1.mkr).mono ?_
  rintro e w2 ⟨h,ar,sl,rfl,ha,hE,hH,hg⟩
  have HA:=Xj ha
  have HE:=Xj hE
  have HW2:=Xj (HKP.o _ _ HR.o.2.2.1 hg hH)
  have HG:=Xj hg
  obtain⟨aa,ca,rws,hsl,_⟩:=ha
  clear hE hH hg
  rw[hsl] at HA ⊢
  clear hsl
  have HOA:=Xj ((Yz HR.o.2.2.2.1 HG.o (by have:=HL.o;have:=HR.o.2.2.1.2.2;omega)).alloc (.cells #[.int .i64 h.k,.int .i64 h.op,.int .i64 h.v,.int .i64 h.ln,.string (st h.nm),.slice aa ar.len ca] 37))
  have HWA:=Xj (HW2.o.1.below (Xw w2 (.cells #[.int .i64 h.k,.int .i64 h.op,.int .i64 h.v,.int .i64 h.ln,.string (st h.nm),.slice aa ar.len ca] 37)))
  have hsb:g5+1<=w2.heap.size+1:=by have:=Xv HW2.o.2.1;omega
  go_wp2_with (at_builtin;refine wpList_append_lies _ rfl _ _ _ rfl (g5+1) 37 i0 _ 6 72 Tryz.underlying35 HI.o HZ0.o HZ1.o HZ2.o rfl (by omega) _ _ _ rfl HOA.o ⟨w2.heap.size,0,none⟩ 1 1 (hdc h (.slice aa ar.len ca)) rfl rfl (World.news_of_block (cs:=(hdc h (.slice aa ar.len ca)).toArray) (t:=37) (fr:=(0,0)) (heap_alloc_new w2 _)) (by simp[Value.oneCell']) (by omega) (by unfold maxLen;omega) (by omega) (by simp;omega) _ rfl ?_;intro g9 c9 w9 hown9 hgrow9 Ho hlt9;have HO9:=Xj hown9;have HG9:=Xj hgrow9;have HR9:=Xj Ho;clear hown9 hgrow9 Ho hlt9)
  go_roundw
  case rel =>
   refine⟨i+1,F.app (Xh h ar),xs++hdc h (.slice aa ar.len ca),by go_num,by omega,Xj ⟨by rw[Fo.len_app,HR.o.1];rfl,Zs.snoc HR.o.2.1 HE.o,?_,HO9.o,?_⟩⟩
   ·have hg59:w9.heap[g5]?=some (Pd f):=by
     rw[HG9.o.block g5 (by have:=Xv HW2.o.2.1;simp;omega) (λ e=>by have:=(HR.o.2.2.2.1.lt g5 e.symm).1;omega),Below.heap_alloc w2 _ g5 (Xv HW2.o.2.1)]
     exact HW2.o.2.1
    refine⟨?_,hg59,HW2.o.2.2⟩
    exact HWA.o.own HG9.o (λ k hk=>by have:=(HR.o.2.2.2.1.lt k hk).1;have:=HW2.o.2.2;omega) HM.o HL.o
   exact Lr HR.o.2.2.2.2 HR.o.2.2.2.1 HG.o (by have:=HL.o;have:=HW2.o.2.2;omega) (Xv HR.o.2.2.1.2.1) HA.o HG9.o HR9.o
  simp[intOf];omega
 obtain rfl:i=n:=by omega
 have He:=HR.o.1
 obtain⟨aF,cF,rF,hvF,hF1,hF2,hF3,hF4,hF5⟩:=Xk.of_own (e:=37) (size:=6) (P:=λ b=>g<b) (F:=F) (by rw[HR.o.1];exact HR.o.2.2.2.1) (HR.o.2.2.2.2.keep (λ b hb _=>⟨rfl,by have:=HR.o.2.2.1.2.2;omega⟩) (Nat.le_refl _)) (λ b hb=>by have:=(HR.o.2.2.2.1.lt b hb).1;have:=HR.o.2.2.1.2.2;omega)
 have HAF:Xq (Xk wr (λ b=>g<b) F u8):=Xj ⟨aF,cF,rF,hvF,hF1,hF2,hF3,hF4,hF5⟩
 clear hF1 hF3 hF4 hF5
 subst hvF
 have HOK:=Xj (HM.o.fok f HF.o).1
 have hiL:i=F.len:=He.symm
 clear He
 subst hiL
 cases bv
 ·obtain⟨p0,p1,p2,p3⟩:=Ej HR.o.2.2.1.2.1
  obtain⟨jl,f0,f1,f2,f3,f4,f5,r0,r1,r2,r3,r4,r5⟩:=HR.o.2.2.1.1.cells
  go_wp2_with fail
  obtain⟨q0,q1,q2,q3,q4,q5,HFN⟩:=HR.o.2.2.1.1.fin HL.o (hd:=⟨9,0,0,0,f.nm⟩) (ar:=F) (sl:=(.slice aF F.len cF)) (d:=d+1) HAF.o (Zg.up (.inl ⟨rfl,rfl,.inr (.inr (.inr (.inr (.inr (.inl ⟨rfl,HOK.o,by omega⟩)))))⟩) rfl HR.o.2.1 (by omega)) _ rfl
  refine bodyPost_ret (v:=exv ⟨9,0,0,0,f.nm⟩ (.slice aF F.len cF)) (by simp[results,Tryz.results123,go_sem,q0,q1,q2,q3,q4,q5]) rfl ?_
  exact⟨HFN.o,_,_,rfl,.inl rfl⟩
 obtain⟨p0,p1,p2,p3⟩:=Ej HR.o.2.2.1.2.1
 have c0:=HC0.o _ HR.o.2.2.1.1
 have hgx:∀ W,W=wr.alloc (.cells #[.int .i64 11,.int .i64 0,.int .i64 0,.int .i64 0,.string (st f.nm),.slice none 0 0] 37)->Xq (ExW w gc gm M g W/\W.heap[wr.heap.size]?=some (.cells #[.int .i64 11,.int .i64 0,.int .i64 0,.int .i64 0,.string (st f.nm),.slice none 0 0] 37 (0,0))/\W.ownsRow (g5+1) 37 6 (.slice aF F.len cF) F.len xs/\Ys W (λ b=>g5<b/\b≠wr.heap.size) F xs/\g5<wr.heap.size):=λ W hW=>by
  subst hW
  exact Xj ⟨HR.o.2.2.1.1.below (Xw _ _),heap_alloc_new _ _,HR.o.2.2.2.1.alloc _,HR.o.2.2.2.2.keep (λ b hb hlt=>⟨Below.heap_alloc wr _ b hlt,hb.1,by omega⟩) (by simp),Xv HR.o.2.2.1.2.1⟩
 go_upto_region 14 with fail
 obtain⟨wA,hwA⟩:∃ wA,wr.alloc (.cells #[.int .i64 11,.int .i64 0,.int .i64 0,.int .i64 0,.string (st f.nm),.slice none 0 0] 37)=wA:=⟨_,rfl⟩
 have HA:=hgx wA hwA.symm
 rw[hwA]
 obtain⟨gt,hgt⟩:∃ gt,wr.heap.size=gt:=⟨_,rfl⟩
 rw[hgt] at HA ⊢
 have HOB:Xq (∀ k,(Value.slice aF F.len cF).ownBlock=some k->k<gt):=Xj (λ k hk=>by rw[<- hgt];exact(HR.o.2.2.2.1.lt k hk).2)
 clear hgx hwA hgt p0 p1 p2 p3 c0
 have HGF:=Xj HR.o.2.1
 have HG5:Xq (g<g5):=Xj HR.o.2.2.1.2.2
 clear HR HAF
 clear wr
 have c0:=HC0.o _ HA.o.1
 go_wp2_with fail
 refine(Yq gc 4 (by omega) _ HA.o.1.mkr.cod).mono ?_
 rintro e wB ⟨x,rfl,x0,x1,hH,hg⟩
 have HB:Xq (ExW w gc gm M g wB/\wB.heap[gt]?=some (.cells #[.int .i64 11,.int .i64 0,.int .i64 0,.int .i64 0,.string (st f.nm),.slice none 0 0] 37 (0,0))/\wB.ownsRow (g5+1) 37 6 (.slice aF F.len cF) F.len xs/\Ys wB (λ b=>g5<b/\b≠gt) F xs/\g5<gt):=Xj ⟨HA.o.1.grown HL.o hg hH,(hg.block gt (Xv HA.o.2.1) (by simp;have:=HL.o;have:=HA.o.2.2.2.2;have:=HG5.o;omega)).trans HA.o.2.1,Yz HA.o.2.2.1 hg (by have:=HL.o;have:=HG5.o;omega),HA.o.2.2.2.1.keep (λ b hb hlt=>⟨hg.block b hlt (by simp;have:=HL.o;have:=HG5.o;omega),hb⟩) hg.size,HA.o.2.2.2.2⟩
 clear hH hg c0 x0 x1 HA
 clear wA
 go_upto_if 78 with fail
 obtain⟨b3,hb3⟩:∃ b,(x==3)=b:=⟨_,rfl⟩
 rw[hb3]
 clear hb3
 go_cut [] from 79 to 82 (λ wx=>∃ (hd:Hd) (ar:Fo) (sa:Option Addr) (sc:Nat),Xq (Zg d hd ar/\Xk wx (λ b=>g5<b/\b≠gt) ar (.slice sa ar.len sc)/\ExW w gc gm M g wx/\wx.heap[gt]?=some (.cells #[.int .i64 hd.k,.int .i64 hd.op,.int .i64 hd.v,.int .i64 hd.ln,.string (st hd.nm),.slice sa ar.len sc] 37 (0,0))/\wx.ownsRow (g5+1) 37 6 (.slice aF F.len cF) F.len xs/\Ys wx (λ b=>g5<b/\b≠gt) F xs))
 case first =>
  cases b3
  ·go_wp2_with fail
   go_meet
   exact⟨⟨11,0,0,0,f.nm⟩,.nil,none,0,Xj ⟨Zg.leaf (.inl ⟨rfl,rfl,.inr (.inr (.inl ⟨rfl,HOK.o,rfl⟩))⟩) rfl rfl (.inr (.inr (.inr rfl))) d,Xk.nil _ _,HB.o.1,HB.o.2.1,HB.o.2.2.1,HB.o.2.2.2.1⟩⟩
  go_wp2_with fail
  refine(HEX.o _ HB.o.1.mkr).mono ?_
  rintro e wC ⟨h,ar,sl,rfl,ha,hE,hH,hg⟩
  have HA:=Xj ha
  have HE:=Xj hE
  obtain⟨aa,ca,rws,hsl,_⟩:=ha
  rw[hsl] at HA ⊢
  have hsz:=hg.size
  have hfy:=Xv HB.o.2.1
  have HC:Xq (ExW w gc gm M g wC/\wC.heap[gt]?=some (.cells #[.int .i64 11,.int .i64 0,.int .i64 0,.int .i64 0,.string (st f.nm),.slice none 0 0] 37 (0,0))/\wC.ownsRow (g5+1) 37 6 (.slice aF F.len cF) F.len xs/\Ys wC (λ b=>g5<b/\b≠gt) F xs):=Xj ⟨HB.o.1.grown HL.o hg hH,(hg.block gt hfy (by simp;have:=HL.o;have:=HB.o.2.2.2.2;have:=HG5.o;omega)).trans HB.o.2.1,Yz HB.o.2.2.1 hg (by have:=HL.o;have:=HG5.o;omega),HB.o.2.2.2.1.keep (λ b hb hlt=>⟨hg.block b hlt (by simp;have:=HL.o;have:=HG5.o;omega),hb⟩) hg.size⟩
  have HLT:Xq (gt<wB.heap.size/\g<gt/\g5<gt):=Xj ⟨hfy,by have:=HG5.o;have:=HB.o.2.2.2.2;omega,HB.o.2.2.2.2⟩
  clear hsl hE hH hg hsz hfy
  obtain⟨p0,p1,p2,p3,p4,p5⟩:=Yu HC.o.2.1
  have s0:=frozen_of_row _ gt 0 _ _ HC.o.2.1
  have s1:=frozen_of_row _ gt 1 _ _ HC.o.2.1
  have s2:=frozen_of_row _ gt 2 _ _ HC.o.2.1
  have s3:=frozen_of_row _ gt 3 _ _ HC.o.2.1
  have s4:=frozen_of_row _ gt 4 _ _ HC.o.2.1
  have s5:=frozen_of_row _ gt 5 _ _ HC.o.2.1
  have jl:=Xv HC.o.2.1
  go_wp2_with fail
  go_meet
  refine⟨h,ar,aa,ca,Xj ⟨HE.o,HA.o.keep (λ b hb _=>⟨Yx b ?_,?_,?_⟩) ?_,HC.o.1.set6 HLT.o.2.1 HM.o,Qj HC.o.2.1,HC.o.2.2.1.kept (Uq wC gt _ _ _ _ _ _) ?_,HC.o.2.2.2.keep (λ b hb _=>⟨Yx b hb.2,hb⟩) ?_⟩⟩
  ·have:=HLT.o;omega
  ·have:=HLT.o;omega
  ·have:=HLT.o;omega
  ·rw[Zv];exact Nat.le_refl _
  ·cases hq:(Value.slice aF F.len cF).ownBlock with
   | none=>exact .inl rfl
   | some q=>exact .inr (by simp;have:=HOB.o q hq;omega)
  rw[Zv];exact Nat.le_refl _
 obtain⟨hd,ar,sa,sc,HC⟩:=hcut
 have HLT:Xq (g<gt/\g5<gt):=Xj ⟨by have:=HG5.o;have:=HB.o.2.2.2.2;omega,HB.o.2.2.2.2⟩
 clear HB
 clear wB
 obtain⟨p0,p1,p2,p3,p4,p5⟩:=Yu HC.o.2.2.2.1
 obtain⟨jl,f0,f1,f2,f3,f4,f5,r0,r1,r2,r3,r4,r5⟩:=HC.o.2.2.1.cells
 have HAF:Xq (Xk wc (λ b=>g<b) F (.slice aF F.len cF)):=Xj (Xk.of_own (e:=37) (size:=6) HC.o.2.2.2.2.1 (HC.o.2.2.2.2.2.keep (λ b hb _=>⟨rfl,by have:=HG5.o;omega⟩) (Nat.le_refl _)) (λ b hb=>by have:=(HC.o.2.2.2.2.1.lt b hb).1;have:=HG5.o;omega))
 by_cases h13:hd.k=13
 ·have d13:(hd.k==13)=true:=by rw[h13];rfl
  have HNM:=Xj (HC.o.1.1.nm13 h13)
  clear h13
  go_wp2_with fail
  obtain⟨q0,q1,q2,q3,q4,q5,HFN⟩:=HC.o.2.2.1.fin HL.o (hd:=⟨9,0,0,0,hd.nm⟩) (ar:=F) (sl:=(.slice aF F.len cF)) (d:=d+1) HAF.o (Zg.up (.inl ⟨rfl,rfl,.inr (.inr (.inr (.inr (.inr (.inl ⟨rfl,HNM.o,by omega⟩)))))⟩) rfl HGF.o (by omega)) _ rfl
  refine bodyPost_ret (v:=exv ⟨9,0,0,0,hd.nm⟩ (.slice aF F.len cF)) (by simp[results,Tryz.results123,go_sem,q0,q1,q2,q3,q4,q5]) rfl ?_
  exact⟨HFN.o,_,_,rfl,.inl rfl⟩
 have d13:(hd.k==13)=false:=by rw[beq_eq_false_iff_ne];exact h13
 have H13:=Xj h13
 clear h13
 have hb1:=Xw wc (.cells #[.int .i64 hd.k,.int .i64 hd.op,.int .i64 hd.v,.int .i64 hd.ln,.string (st hd.nm),.slice sa ar.len sc] 37)
 have HOW:=Xj (It wc #[.int .i64 hd.k,.int .i64 hd.op,.int .i64 hd.v,.int .i64 hd.ln,.string (st hd.nm),.slice sa ar.len sc] (g5+1) 37 rfl (by have:=Xv HC.o.2.2.2.1;have:=HLT.o;omega))
 have HX1:=Xj (HC.o.2.2.1.below hb1)
 have HTR:Xq (Ys (wc.alloc (.cells #[.int .i64 hd.k,.int .i64 hd.op,.int .i64 hd.v,.int .i64 hd.ln,.string (st hd.nm),.slice sa ar.len sc] 37)) (λ b=>g5<b/\b<wc.heap.size) (.cons hd ar F) (hdc hd (.slice sa ar.len sc)++xs)):=Xj (Ys.app (G:=F) (Xk.one (HC.o.2.1.keep (λ b hb hlt=>⟨Below.heap_alloc wc _ b hlt,hb.1,hlt⟩) (by simp))) (HC.o.2.2.2.2.2.keep (λ b hb hlt=>⟨Below.heap_alloc wc _ b hlt,hb.1,hlt⟩) (by simp)))
 obtain⟨_,_,e1,hxl,hfc,hcm,hcel,_⟩:=Yf.of_own HC.o.2.2.2.2.1
 injection e1 with e1 e2 e3
 subst e1 e3
 have HXL:=Xj hxl
 have HNI:=Xj (Wg HC.o.2.2.2.2.1)
 have HCL:=Xj (hcel.below hb1)
 have HOC:=Xj (Ys.oneCell HC.o.2.2.2.2.2)
 clear hb1 hcel hxl e2
 unfold maxLen at hcm
 have hgl:g5+1<=wc.heap.size+1:=by have:=Xv HC.o.2.2.2.1;have:=HLT.o;omega
 go_wp2_with (at_builtin;refine Uc rfl _ _ _ rfl (g5+1) 37 i0 _ 6 72 Tryz.underlying35 HI.o HZ0.o HZ1.o HZ2.o rfl (by omega) _ _ _ rfl HOW.o _ _ _ xs rfl hfc HNI.o HXL.o HCL.o HOC.o (by unfold maxLen;omega) (by omega) (by simp;omega) ?_;intro v' w9 hown9 hgrow9;obtain⟨a9,c9,rfl,_⟩:=Yf.of_own hown9;have HO9:=Xj hown9;have HG9:=Xj hgrow9;clear hown9 hgrow9;have HX9:=Xj (HX1.o.own HG9.o (λ k hk=>by have:=(HOW.o.lt k hk).1;have:=HG5.o;omega) HM.o HL.o);obtain⟨jl,f0,f1,f2,f3,f4,f5,r0,r1,r2,r3,r4,r5⟩:=HX9.o.cells)
 have e9:1+F.len=(Fo.cons hd ar F).len:=by simp only[Fo.len];omega
 have HA9:Xq (Xk w9 (λ b=>g<b) (.cons hd ar F) (.slice a9 (1+F.len) c9)):=Xj (by
  have h9:=HO9.o
  rw[e9] at h9 ⊢
  refine Xk.of_own (e:=37) (size:=6) h9 (HTR.o.keep (λ b hb hlt=>⟨HG9.o.block b hlt (by show some b≠some wc.heap.size;simp;omega),by have:=HG5.o;omega⟩) HG9.o.size) (λ b hb=>by have:=(h9.lt b hb).1;have:=HG5.o;omega))
 obtain⟨q0,q1,q2,q3,q4,q5,HFN⟩:=HX9.o.fin HL.o (hd:=⟨10,0,0,0,[]⟩) (ar:=(.cons hd ar F)) (sl:=(.slice a9 (1+F.len) c9)) (d:=d+1) HA9.o (Zg.up (.inl ⟨rfl,rfl,.inr (.inr (.inr (.inr (.inr (.inr ⟨rfl,rfl,hd,ar,F,rfl,H13.o,by omega⟩)))))⟩) rfl (Zs.cons HGF.o HC.o.1) (by simp only[Fo.len];omega)) _ rfl
 refine bodyPost_ret (v:=exv ⟨10,0,0,0,[]⟩ (.slice a9 (1+F.len) c9)) (by simp[results,Tryz.results123,go_sem,q0,q1,q2,q3,q4,q5]) rfl ?_
 exact⟨HFN.o,_,_,rfl,.inr rfl⟩
theorem Un.open {gc gm d:Nat} {w w':World} {e:Ending} (h:Un gc gm d w e w'):∃ hd ar a c,e=.returned (exv hd (.slice a ar.len c))/\Xq (Xk w' (λ b=>w.heap.size<=b) ar (.slice a ar.len c)/\Zg d hd ar/\Cod w' gc/\w.grownBy w' (some gc)):=by
 obtain⟨hd,ar,sl,rfl,ha,hE,hc,hg⟩:=h
 have ha2:=ha
 obtain⟨a,c,rws,rfl,_⟩:=ha2
 exact⟨hd,ar,a,c,rfl,Xj ⟨ha,hE,hc,hg⟩⟩
theorem Tm (gc gm d:Nat) (M:Mk) (w:World) (h:Yg w gc gm M):Calls Tryz.prog 120 #[.pointer (some ⟨gm,0,none⟩),.int .i64 0] w (Un gc gm d w):=by
 have hx:=ExW.start h
 have HL:Xq (gc<w.heap.size):=Xj (by have:=h.lt2;omega)
 have HLF:=Xj (λ W (hW:Yg W gc gm M)=>Nm gc gm d M W hW)
 have HM:=Xj h
 go_enter Tryz.func120,Tryz.ntmps120
 go_upto_region 1 with fail
 obtain⟨w1,hw1⟩:∃ w1,w.alloc zex=w1:=⟨_,rfl⟩
 rw[hw1] at hx ⊢
 obtain⟨g,hg⟩:∃ g,w.heap.size=g:=⟨_,rfl⟩
 rw[hg] at hx HL ⊢
 have HX:=Xj hx
 have hqt:=hx.mkr.lt2
 have c0:=cell_of_row _ _ 0 _ _ _ hx.mkr.row
 clear hw1 hx h hg
 go_wp2_with fail
 refine(HLF.o _ HX.o.mkr).mono ?_
 intro e wl hpl
 obtain⟨hd,ar,sa,sc,rfl,HR⟩:=hpl.open
 clear hpl
 have HXl:=Xj (HX.o.grown HL.o HR.o.2.2.2 HR.o.2.2.1)
 have HAl:Xq (Xk wl (λ b=>g<b) ar (.slice sa ar.len sc)):=Xj (HR.o.1.keep (λ b hb _=>⟨rfl,Nat.lt_of_lt_of_le HX.o.lts hb⟩) (Nat.le_refl _))
 obtain⟨jl,f0,f1,f2,f3,f4,f5,r0,r1,r2,r3,r4,r5⟩:=HXl.o.cells
 go_wp2_with fail
 obtain⟨q0,q1,q2,q3,q4,q5,HFN⟩:=HXl.o.fin HL.o (hd:=hd) (ar:=ar) (sl:=.slice sa ar.len sc) (d:=d) HAl.o HR.o.2.1 _ rfl
 refine bodyPost_ret (v:=exv hd (.slice sa ar.len sc)) (by simp[results,Tryz.results120,go_sem,q0,q1,q2,q3,q4,q5]) rfl ?_
 exact HFN.o
theorem Tc (gc gm d:Nat) (M:Mk) (hfw:d<=1000) (HE:∀ W,Yg W gc gm M->Calls Tryz.prog 120 #[.pointer (some ⟨gm,0,none⟩),.int .i64 (d:Int)] W (Un gc gm d W)) (w:World) (h:Yg w gc gm M):Calls Tryz.prog 120 #[.pointer (some ⟨gm,0,none⟩),.int .i64 ((d:Int)+1)] w (Un gc gm (d+1) w):=by
 have hx:=ExW.start h
 have HEX:=Xj HE
 have HCL:=Xj (λ W (hW:Yg W gc gm M)=>(Mx gc gm d M hfw HE W hW).mono (λ _ _ hp=>hp.1))
 clear HE
 have HL:Xq (gc<w.heap.size):=Xj (by have:=h.lt2;omega)
 have HLF:=Xj (λ W (hW:Yg W gc gm M)=>Nm gc gm (d+1) M W hW)
 have HPK:=Xj (λ W (hW:Yg W gc gm M)=>Wb gc gm M true W hW)
 have HM:=Xj h
 have d0:decide ((d:Int)+1<1)=false:=by rw[decide_eq_false_iff_not];omega
 go_enter Tryz.func120,Tryz.ntmps120
 go_upto_region 1 with fail
 obtain⟨w1,hw1⟩:∃ w1,w.alloc zex=w1:=⟨_,rfl⟩
 rw[hw1] at hx ⊢
 obtain⟨g,hg⟩:∃ g,w.heap.size=g:=⟨_,rfl⟩
 rw[hg] at hx HL ⊢
 have HX0:=Xj hx
 have hqt:=hx.mkr.lt2
 have c0:=cell_of_row _ _ 0 _ _ _ hx.mkr.row
 clear hw1 hx h hg
 go_wp2_with fail
 refine(Yq gc 3 (by omega) _ HX0.o.mkr.cod).mono ?_
 rintro e w2 ⟨x,rfl,x0,x1,hH,hg⟩
 have HX:=Xj (HX0.o.grown HL.o hg hH)
 clear c0 hH hg HX0 hqt
 clear w1
 by_cases hx0:x=0
 ·subst hx0
  clear x0 x1
  go_wp2_with fail
  refine(HLF.o _ HX.o.mkr).mono ?_
  intro e wl hpl
  obtain⟨hd,ar,sa,sc,rfl,HR⟩:=hpl.open
  clear hpl
  have HXl:=Xj (HX.o.grown HL.o HR.o.2.2.2 HR.o.2.2.1)
  have HAl:Xq (Xk wl (λ b=>g<b) ar (.slice sa ar.len sc)):=Xj (HR.o.1.keep (λ b hb _=>⟨rfl,Nat.lt_of_lt_of_le HX.o.lts hb⟩) (Nat.le_refl _))
  obtain⟨jl,f0,f1,f2,f3,f4,f5,r0,r1,r2,r3,r4,r5⟩:=HXl.o.cells
  go_wp2_with fail
  obtain⟨q0,q1,q2,q3,q4,q5,HFN⟩:=HXl.o.fin HL.o (hd:=hd) (ar:=ar) (sl:=.slice sa ar.len sc) (d:=d+1) HAl.o HR.o.2.1 _ rfl
  refine bodyPost_ret (v:=exv hd (.slice sa ar.len sc)) (by simp[results,Tryz.results120,go_sem,q0,q1,q2,q3,q4,q5]) rfl ?_
  exact HFN.o
 have dx:(x==0)=false:=by rw[beq_eq_false_iff_ne];exact hx0
 clear hx0 x0 x1
 go_wp2_with fail
 refine(Yq gc 9 (by omega) _ HX.o.mkr.cod).mono ?_
 rintro e w3 ⟨y,rfl,y0,y1,hH,hg⟩
 have HX3:=Xj (HX.o.grown HL.o hg hH)
 clear hH hg HX
 clear w2
 have y2:y<9:=by omega
 clear y1
 go_upto_block 0 with fail
 go_cut [6,7] from 23 to 78 (λ v6 v7 wx=>Xq (ExW w gc gm M g wx))
 case first =>
  by_cases e0:y=0
  ·subst e0
   clear y0 y2
   go_wp2_with fail
   refine(Yq gc 2 (by omega) _ HX3.o.mkr.cod).mono ?_
   rintro e w3b ⟨z,rfl,z0,z1,hH,hg⟩
   have hzy:=Xj (HX3.o.grown HL.o hg hH)
   clear hH hg
   have z2:z<2:=by omega
   go_wp2_with fail
   refine(HEX.o _ hzy.o.mkr).mono ?_
   intro e w4 hp4
   obtain⟨h4,ar4,a4,k4,rfl,HR4⟩:=hp4.open
   clear hp4
   have HX4:=Xj (hzy.o.grown HL.o HR4.o.2.2.2 HR4.o.2.2.1)
   go_wp2_with fail
   have HFA:Xq (Ys w4 (λ b=>g<b) (Xh h4 ar4) (hdc h4 (.slice a4 ar4.len k4))):=Xj (Xk.one (HR4.o.1.keep (λ b hb _=>⟨rfl,Nat.lt_of_lt_of_le hzy.o.lts hb⟩) (Nat.le_refl _)))
   have HAM:=Xj (Zc (Q:=λ b=>g<b) HFA.o (by simp[Fo.len,maxLen]) (λ b hb _=>hb) HX4.o.lts)
   have HXA:=Xj (HX4.o.below (Xw w4 (.cells (hdc h4 (.slice a4 ar4.len k4)).toArray 37)))
   refine(Qk _ _ _ _ _ _).mono ?_
   rintro e wn ⟨rfl,hbn⟩
   have HXN:=Xj (HXA.o.below hbn)
   have HAN:=Xj (HAM.o.keep (λ b hb hlt=>⟨hbn.block b hlt,hb⟩) hbn.size)
   clear hbn
   obtain⟨jl,f0,f1,f2,f3,f4,f5,r0,r1,r2,r3,r4,r5⟩:=HXN.o.cells
   go_wp2_with fail
   obtain⟨q0,q1,q2,q3,q4,q5,HFN⟩:=HXN.o.fin HL.o (hd:=⟨5,1+z,0,0,[]⟩) (ar:=(Xh h4 ar4)) (sl:=.slice (some ⟨w4.heap.size,0,none⟩) 1 1) (d:=d+1) HAN.o (Zg.up (.inr (.inr ⟨rfl,rfl,.inl ⟨rfl,by show (1:Int)<=1+z;omega,by show 1+z<=2;omega,rfl⟩⟩)) rfl (Zs.cons (Zs.nil d) HR4.o.2.1) (by simp[Fo.len])) _ rfl
   refine bodyPost_ret (v:=exv ⟨5,1+z,0,0,[]⟩ (.slice (some ⟨w4.heap.size,0,none⟩) 1 1)) (by simp[results,Tryz.results120,go_sem,Fo.len,q0,q1,q2,q3,q4,q5]) rfl ?_
   exact HFN.o
  by_cases e1:y=1
  ·subst e1
   clear y0 y2
   go_wp2_with fail
   refine(HEX.o _ HX3.o.mkr).mono ?_
   intro e w4 hp4
   obtain⟨h4,ar4,a4,k4,rfl,HR4⟩:=hp4.open
   clear hp4
   have HX4:=Xj (HX3.o.grown HL.o HR4.o.2.2.2 HR4.o.2.2.1)
   go_wp2_with fail
   refine(HEX.o _ HX4.o.mkr).mono ?_
   intro e w5 hp5
   obtain⟨h5,ar5,a5,k5,rfl,HR5⟩:=hp5.open
   clear hp5
   have HX5:=Xj (HX4.o.grown HL.o HR5.o.2.2.2 HR5.o.2.2.1)
   go_wp2_with fail
   have HFA:Xq (Ys w5 (λ b=>g<b) (.cons h4 ar4 (Xh h5 ar5)) (hdc h4 (.slice a4 ar4.len k4)++hdc h5 (.slice a5 ar5.len k5))):=Xj (Ys.app (F:=Xh h4 ar4) (Xk.one (HR4.o.1.keep (λ b hb hlt=>⟨HR5.o.2.2.2.block b hlt (by simp;have:=HL.o;have:=HX3.o.lts;omega),Nat.lt_of_lt_of_le HX3.o.lts hb⟩) HR5.o.2.2.2.size)) (Xk.one (HR5.o.1.keep (λ b hb _=>⟨rfl,Nat.lt_of_lt_of_le HX4.o.lts hb⟩) (Nat.le_refl _))))
   have HAM:=Xj (Zc (Q:=λ b=>g<b) HFA.o (by simp[Fo.len,maxLen]) (λ b hb _=>hb) HX5.o.lts)
   have HXA:=Xj (HX5.o.below (Xw w5 (.cells (hdc h4 (.slice a4 ar4.len k4)++hdc h5 (.slice a5 ar5.len k5)).toArray 37)))
   refine(Qk _ _ _ _ _ _).mono ?_
   rintro e wn ⟨rfl,hbn⟩
   have HXN:=Xj (HXA.o.below hbn)
   have HAN:=Xj (HAM.o.keep (λ b hb hlt=>⟨hbn.block b hlt,hb⟩) hbn.size)
   clear hbn
   obtain⟨jl,f0,f1,f2,f3,f4,f5,r0,r1,r2,r3,r4,r5⟩:=HXN.o.cells
   go_wp2_with fail
   obtain⟨q0,q1,q2,q3,q4,q5,HFN⟩:=HXN.o.fin HL.o (hd:=⟨7,0,0,0,[]⟩) (ar:=(.cons h4 ar4 (Xh h5 ar5))) (sl:=.slice (some ⟨w5.heap.size,0,none⟩) 2 2) (d:=d+1) HAN.o (Zg.up (.inl ⟨rfl,rfl,.inr (.inr (.inr (.inr (.inl ⟨.inl rfl,rfl,rfl⟩))))⟩) rfl (Zs.cons (Zs.cons (Zs.nil d) HR5.o.2.1) HR4.o.2.1) (by simp[Fo.len])) _ rfl
   refine bodyPost_ret (v:=exv ⟨7,0,0,0,[]⟩ (.slice (some ⟨w5.heap.size,0,none⟩) 2 2)) (by simp[results,Tryz.results120,go_sem,Fo.len,q0,q1,q2,q3,q4,q5]) rfl ?_
   exact HFN.o
  by_cases e2:y=2
  ·subst e2
   clear y0 y2
   go_wp2_with fail
   refine(HEX.o _ HX3.o.mkr).mono ?_
   intro e w4 hp4
   obtain⟨h4,ar4,a4,k4,rfl,HR4⟩:=hp4.open
   clear hp4
   have HX4:=Xj (HX3.o.grown HL.o HR4.o.2.2.2 HR4.o.2.2.1)
   go_wp2_with fail
   refine(HEX.o _ HX4.o.mkr).mono ?_
   intro e w5 hp5
   obtain⟨h5,ar5,a5,k5,rfl,HR5⟩:=hp5.open
   clear hp5
   have HX5:=Xj (HX4.o.grown HL.o HR5.o.2.2.2 HR5.o.2.2.1)
   go_wp2_with fail
   have HFA:Xq (Ys w5 (λ b=>g<b) (.cons h4 ar4 (Xh h5 ar5)) (hdc h4 (.slice a4 ar4.len k4)++hdc h5 (.slice a5 ar5.len k5))):=Xj (Ys.app (F:=Xh h4 ar4) (Xk.one (HR4.o.1.keep (λ b hb hlt=>⟨HR5.o.2.2.2.block b hlt (by simp;have:=HL.o;have:=HX3.o.lts;omega),Nat.lt_of_lt_of_le HX3.o.lts hb⟩) HR5.o.2.2.2.size)) (Xk.one (HR5.o.1.keep (λ b hb _=>⟨rfl,Nat.lt_of_lt_of_le HX4.o.lts hb⟩) (Nat.le_refl _))))
   have HAM:=Xj (Zc (Q:=λ b=>g<b) HFA.o (by simp[Fo.len,maxLen]) (λ b hb _=>hb) HX5.o.lts)
   have HXA:=Xj (HX5.o.below (Xw w5 (.cells (hdc h4 (.slice a4 ar4.len k4)++hdc h5 (.slice a5 ar5.len k5)).toArray 37)))
   refine(Qk _ _ _ _ _ _).mono ?_
   rintro e wn ⟨rfl,hbn⟩
   have HXN:=Xj (HXA.o.below hbn)
   have HAN:=Xj (HAM.o.keep (λ b hb hlt=>⟨hbn.block b hlt,hb⟩) hbn.size)
   clear hbn
   obtain⟨jl,f0,f1,f2,f3,f4,f5,r0,r1,r2,r3,r4,r5⟩:=HXN.o.cells
   go_wp2_with fail
   obtain⟨q0,q1,q2,q3,q4,q5,HFN⟩:=HXN.o.fin HL.o (hd:=⟨8,0,0,0,[]⟩) (ar:=(.cons h4 ar4 (Xh h5 ar5))) (sl:=.slice (some ⟨w5.heap.size,0,none⟩) 2 2) (d:=d+1) HAN.o (Zg.up (.inl ⟨rfl,rfl,.inr (.inr (.inr (.inr (.inl ⟨.inr rfl,rfl,rfl⟩))))⟩) rfl (Zs.cons (Zs.cons (Zs.nil d) HR5.o.2.1) HR4.o.2.1) (by simp[Fo.len])) _ rfl
   refine bodyPost_ret (v:=exv ⟨8,0,0,0,[]⟩ (.slice (some ⟨w5.heap.size,0,none⟩) 2 2)) (by simp[results,Tryz.results120,go_sem,Fo.len,q0,q1,q2,q3,q4,q5]) rfl ?_
   exact HFN.o
  by_cases e3:y=3
  ·subst e3
   clear y0 y2
   go_wp2_with fail
   refine(HCL.o _ HX3.o.mkr).mono ?_
   intro e wl hpl
   obtain⟨hd,ar,sa,sc,rfl,HR⟩:=hpl.open
   clear hpl
   have HXl:=Xj (HX3.o.grown HL.o HR.o.2.2.2 HR.o.2.2.1)
   have HAl:Xq (Xk wl (λ b=>g<b) ar (.slice sa ar.len sc)):=Xj (HR.o.1.keep (λ b hb _=>⟨rfl,Nat.lt_of_lt_of_le HX3.o.lts hb⟩) (Nat.le_refl _))
   obtain⟨jl,f0,f1,f2,f3,f4,f5,r0,r1,r2,r3,r4,r5⟩:=HXl.o.cells
   go_wp2_with fail
   obtain⟨q0,q1,q2,q3,q4,q5,HFN⟩:=HXl.o.fin HL.o (hd:=hd) (ar:=ar) (sl:=.slice sa ar.len sc) (d:=d+1) HAl.o HR.o.2.1 _ rfl
   refine bodyPost_ret (v:=exv hd (.slice sa ar.len sc)) (by simp[results,Tryz.results120,go_sem,q0,q1,q2,q3,q4,q5]) rfl ?_
   exact HFN.o
  by_cases e4:y=4
  ·subst e4
   clear y0 y2
   go_wp2_with fail
   refine(HCL.o _ HX3.o.mkr).mono ?_
   intro e wl hpl
   obtain⟨hd,ar,sa,sc,rfl,HR⟩:=hpl.open
   clear hpl
   have HXl:=Xj (HX3.o.grown HL.o HR.o.2.2.2 HR.o.2.2.1)
   have HAl:Xq (Xk wl (λ b=>g<b) ar (.slice sa ar.len sc)):=Xj (HR.o.1.keep (λ b hb _=>⟨rfl,Nat.lt_of_lt_of_le HX3.o.lts hb⟩) (Nat.le_refl _))
   obtain⟨jl,f0,f1,f2,f3,f4,f5,r0,r1,r2,r3,r4,r5⟩:=HXl.o.cells
   go_wp2_with fail
   obtain⟨q0,q1,q2,q3,q4,q5,HFN⟩:=HXl.o.fin HL.o (hd:=hd) (ar:=ar) (sl:=.slice sa ar.len sc) (d:=d+1) HAl.o HR.o.2.1 _ rfl
   refine bodyPost_ret (v:=exv hd (.slice sa ar.len sc)) (by simp[results,Tryz.results120,go_sem,q0,q1,q2,q3,q4,q5]) rfl ?_
   exact HFN.o
  by_cases e5:y=5
  ·subst e5
   clear y0 y2
   go_wp2_with fail
   refine(HPK.o _ HX3.o.mkr).mono ?_
   rintro e w3b ⟨nm,ok,rfl,hpk,hH,hg⟩
   have hzy:=Xj (HX3.o.grown HL.o hg hH)
   cases ok
   ·clear hpk hg hH
    go_wp2_with fail
    go_meet
    exact hzy
   have HOK:=Xj ((hpk rfl).nm HM.o)
   clear hpk hg hH
   go_wp2_with fail
   refine(HEX.o _ hzy.o.mkr).mono ?_
   intro e w4 hp4
   obtain⟨h4,ar4,a4,k4,rfl,HR4⟩:=hp4.open
   clear hp4
   have HX4:=Xj (hzy.o.grown HL.o HR4.o.2.2.2 HR4.o.2.2.1)
   have HFA:Xq (Ys w4 (λ b=>g<b) (Xh h4 ar4) (hdc h4 (.slice a4 ar4.len k4))):=Xj (Xk.one (HR4.o.1.keep (λ b hb _=>⟨rfl,Nat.lt_of_lt_of_le hzy.o.lts hb⟩) (Nat.le_refl _)))
   have HAN:=Xj (Zc (Q:=λ b=>g<b) HFA.o (by simp[Fo.len,maxLen]) (λ b hb _=>hb) HX4.o.lts)
   have HXN:=Xj (HX4.o.below (Xw w4 (.cells (hdc h4 (.slice a4 ar4.len k4)).toArray 37)))
   have hg4:g<w4.heap.size:=HX4.o.lts
   obtain⟨jl,f0,f1,f2,f3,f4,f5,r0,r1,r2,r3,r4,r5⟩:=HX4.o.cells
   go_wp2_with fail
   obtain⟨q0,q1,q2,q3,q4,q5,HFN⟩:=HXN.o.fin HL.o (hd:=⟨4,0,0,0,nm⟩) (ar:=Xh h4 ar4) (sl:=.slice (some ⟨w4.heap.size,0,none⟩) 1 1) (d:=d+1) HAN.o (Zg.up (.inl ⟨rfl,rfl,.inr (.inr (.inr (.inl ⟨rfl,HOK.o,rfl⟩)))⟩) rfl (Zs.cons (Zs.nil d) HR4.o.2.1) (by simp[Fo.len])) _ (Zw _ hg4).symm
   refine bodyPost_ret (v:=exv ⟨4,0,0,0,nm⟩ (.slice (some ⟨w4.heap.size,0,none⟩) 1 1)) (by simp[results,Tryz.results120,go_sem,Fo.len,q0,q1,q2,q3,q4,q5]) rfl ?_
   exact HFN.o
  have d0:(y==0)=false:=by rw[beq_eq_false_iff_ne];exact e0
  have d1:(y==1)=false:=by rw[beq_eq_false_iff_ne];exact e1
  have d2:(y==2)=false:=by rw[beq_eq_false_iff_ne];exact e2
  have d3:(y==3)=false:=by rw[beq_eq_false_iff_ne];exact e3
  have d4:(y==4)=false:=by rw[beq_eq_false_iff_ne];exact e4
  have d5:(y==5)=false:=by rw[beq_eq_false_iff_ne];exact e5
  clear e0 e1 e2 e3 e4 e5 y0 y2
  go_wp2_with fail
  go_meet
  exact HX3
 have hzy:=hcut
 clear HX3 hcut y0 y2
 go_wp2_with fail
 refine(Yq gc 9 (by omega) _ hzy.o.mkr.cod).mono ?_
 rintro e w3 ⟨z,rfl,z0,z1,hH,hg⟩
 have HX3:=Xj (hzy.o.grown HL.o hg hH)
 clear hH hg hzy
 have z2:z<9:=by omega
 clear z1
 go_wp2_with fail
 refine(HEX.o _ HX3.o.mkr).mono ?_
 intro e w4 hp4
 obtain⟨h4,ar4,a4,k4,rfl,HR4⟩:=hp4.open
 clear hp4
 have HX4:=Xj (HX3.o.grown HL.o HR4.o.2.2.2 HR4.o.2.2.1)
 go_wp2_with fail
 refine(HEX.o _ HX4.o.mkr).mono ?_
 intro e w5 hp5
 obtain⟨h5,ar5,a5,k5,rfl,HR5⟩:=hp5.open
 clear hp5
 have HX5:=Xj (HX4.o.grown HL.o HR5.o.2.2.2 HR5.o.2.2.1)
 go_wp2_with fail
 have HFA:Xq (Ys w5 (λ b=>g<b) (.cons h4 ar4 (Xh h5 ar5)) (hdc h4 (.slice a4 ar4.len k4)++hdc h5 (.slice a5 ar5.len k5))):=Xj (Ys.app (F:=Xh h4 ar4) (Xk.one (HR4.o.1.keep (λ b hb hlt=>⟨HR5.o.2.2.2.block b hlt (by simp;have:=HL.o;have:=HX3.o.lts;omega),Nat.lt_of_lt_of_le HX3.o.lts hb⟩) HR5.o.2.2.2.size)) (Xk.one (HR5.o.1.keep (λ b hb _=>⟨rfl,Nat.lt_of_lt_of_le HX4.o.lts hb⟩) (Nat.le_refl _))))
 have HAM:=Xj (Zc (Q:=λ b=>g<b) HFA.o (by simp[Fo.len,maxLen]) (λ b hb _=>hb) HX5.o.lts)
 have HXA:=Xj (HX5.o.below (Xw w5 (.cells (hdc h4 (.slice a4 ar4.len k4)++hdc h5 (.slice a5 ar5.len k5)).toArray 37)))
 refine(Qk _ _ _ _ _ _).mono ?_
 rintro e wn ⟨rfl,hbn⟩
 have HXN:=Xj (HXA.o.below hbn)
 have HAN:=Xj (HAM.o.keep (λ b hb hlt=>⟨hbn.block b hlt,hb⟩) hbn.size)
 clear hbn
 obtain⟨jl,f0,f1,f2,f3,f4,f5,r0,r1,r2,r3,r4,r5⟩:=HXN.o.cells
 go_wp2_with fail
 obtain⟨q0,q1,q2,q3,q4,q5,HFN⟩:=HXN.o.fin HL.o (hd:=⟨6,3+z,0,0,[]⟩) (ar:=(.cons h4 ar4 (Xh h5 ar5))) (sl:=.slice (some ⟨w5.heap.size,0,none⟩) 2 2) (d:=d+1) HAN.o (Zg.up (.inr (.inr ⟨rfl,rfl,.inr ⟨rfl,by show (3:Int)<=3+z;omega,by show 3+z<=11;omega,rfl⟩⟩)) rfl (Zs.cons (Zs.cons (Zs.nil d) HR5.o.2.1) HR4.o.2.1) (by simp[Fo.len])) _ rfl
 refine bodyPost_ret (v:=exv ⟨6,3+z,0,0,[]⟩ (.slice (some ⟨w5.heap.size,0,none⟩) 2 2)) (by simp[results,Tryz.results120,go_sem,Fo.len,q0,q1,q2,q3,q4,q5]) rfl ?_
 exact HFN.o
theorem Gx (gc gm d:Nat) (M:Mk) (hfw:d<=1000) (w:World) (h:Yg w gc gm M):Calls Tryz.prog 120 #[.pointer (some ⟨gm,0,none⟩),.int .i64 (d:Int)] w (Un gc gm d w):=by
 induction d generalizing w with
 | zero=>exact Tm gc gm 0 M w h
 | succ d ih=>exact Tc gc gm d M (by omega) (λ W hW=>ih (by omega) W hW) w h
theorem Ts (gc gm:Nat) (M:Mk) (w:World) (h:Yg w gc gm M):Calls Tryz.prog 123 #[.pointer (some ⟨gm,0,none⟩),.int .i64 2] w (Mf gc gm 2 w) :=
 Mx gc gm 1 M (by omega) (λ W hW=>Gx gc gm 1 M (by omega) W hW) w h
structure Chg (w w':World) (gc gm:Nat) (M M':Mk):Prop where
 os:w'.os=w.os
 tape:w'.tape=w.tape
 output:w'.output=w.output
 size:w.heap.size<=w'.heap.size
 block:∀ k,k<w.heap.size->k≠gc->k≠gm->some k≠M.vl.ownBlock->w'.heap[k]?=w.heap[k]?
 vl:∀ k,M'.vl.ownBlock=some k->k<w.heap.size->M.vl.ownBlock=some k
 ga:M'.va=M.va
 gb:M'.vb=M.vb
 gg:M'.gs=M.gs
 gf:M'.fs=M.fs
theorem Chg.trans {w w1 w2:World} {gc gm:Nat} {M M1 M2:Mk} (h:Chg w w1 gc gm M M1) (k:Chg w1 w2 gc gm M1 M2):Chg w w2 gc gm M M2 :=
 ⟨k.os.trans h.os,k.tape.trans h.tape,k.output.trans h.output,Nat.le_trans h.size k.size,
  λ i hi h1 h2 h3=>(k.block i (Nat.lt_of_lt_of_le hi h.size) h1 h2 (λ e=>h3 (h.vl i e.symm hi).symm)).trans (h.block i hi h1 h2 h3),
  λ i hi hlt=>h.vl i (k.vl i hi (Nat.lt_of_lt_of_le hlt h.size)) hlt,k.ga.trans h.ga,k.gb.trans h.gb,k.gg.trans h.gg,k.gf.trans h.gf⟩
theorem Chg.of_grown {w w':World} {gc gm:Nat} {M:Mk} (hg:w.grownBy w' (some gc)):Chg w w' gc gm M M :=
 ⟨hg.os,hg.tape,hg.output,hg.size,λ k hk h1 _ _=>hg.block k hk (λ e=>h1 (by injection e)),λ k hk _=>hk,rfl,rfl,rfl,rfl⟩
theorem Chg.of_below {w w':World} {gc gm:Nat} {M:Mk} (hb:Below w.heap.size w w'):Chg w w' gc gm M M:=Chg.of_grown (Xg hb _)
def TB (lo:Nat) (M:Mk):Nat->Prop:=λ b=>lo<=b/\some b≠M.vl.ownBlock
theorem Chg.kp {w w':World} {gc gm lo:Nat} {M M':Mk} (h:Chg w w' gc gm M M') (h1:gc<lo) (h2:gm<lo):∀ b,TB lo M b->b<w.heap.size->w'.heap[b]?=w.heap[b]?/\TB lo M' b :=
 λ b hb hlt=>⟨h.block b hlt (by have:=hb.1;omega) (by have:=hb.1;omega) hb.2,hb.1,λ e=>hb.2 (h.vl b e.symm hlt).symm⟩
theorem Xl.chg {w w':World} {gc gm lo:Nat} {M M':Mk} {S:Sf} {sl:Value} (h:Xl w (TB lo M) S sl) (hc:Chg w w' gc gm M M') (h1:gc<lo) (h2:gm<lo):Xl w' (TB lo M') S sl:=h.keep (hc.kp h1 h2) hc.size
theorem Xk.chg {w w':World} {gc gm lo:Nat} {M M':Mk} {F:Fo} {sl:Value} (h:Xk w (TB lo M) F sl) (hc:Chg w w' gc gm M M') (h1:gc<lo) (h2:gm<lo):Xk w' (TB lo M') F sl:=h.keep (hc.kp h1 h2) hc.size
theorem Zz.chg {w w':World} {gc gm lo:Nat} {M M':Mk} {S:Sf} {cs:List Value} (h:Zz w (TB lo M) S cs) (hc:Chg w w' gc gm M M') (h1:gc<lo) (h2:gm<lo):Zz w' (TB lo M') S cs:=h.keep (hc.kp h1 h2) hc.size
theorem TB.of {w:World} {gc gm lo:Nat} {M:Mk} (hM:Yg w gc gm M) (hlo:lo<=w.heap.size):∀ b,w.heap.size<=b->TB lo M b:=λ b hb =>
 ⟨by omega,λ e=>by have:=(hM.lo.lt b e.symm).2;omega⟩
def Vr (gc gm deep:Nat) (M:Mk) (w:World) (e:Ending) (w':World):Prop :=
 ∃ (k:Int) (nm:Bt) (xs:Fo) (th el:Sf) (slx slt sle:Value) (M':Mk),e=.returned (stv k 0 nm slx slt sle) /\
  Xk w' (TB w.heap.size M') xs slx/\Xl w' (TB w.heap.size M') th slt/\Xl w' (TB w.heap.size M') el sle /\
  Chg w w' gc gm M M'/\Yg w' gc gm M'/\0<=M'.bud/\M'.ls.length+M'.bud<=9 /\
  (Zd k 0 nm xs th el).wf/\((Zd k 0 nm xs th el).cst:Int)<=1300+1300*(M.bud-M'.bud)/\(Zd k 0 nm xs th el).nst<=deep+1/\(Zd k 0 nm xs th el).hgt<=3
def Gc (gc gm deep:Nat) (M:Mk) (w:World) (e:Ending) (w':World):Prop :=
 ∃ (S:Sf) (sl:Value) (xs:List Value) (M':Mk),e=.returned sl/\w'.ownsRow w.heap.size 110 6 sl S.len xs/\Zz w' (λ b=>TB w.heap.size M' b/\some b≠sl.ownBlock) S xs/\Chg w w' gc gm M M'/\Yg w' gc gm M'/\0<=M'.bud/\M'.ls.length+M'.bud<=9 /\
  S.wf/\(S.cst:Int)<=1300*(M.bud-M'.bud)/\S.nst<=deep+1/\S.hgt<=3
theorem Tb (gc gm:Nat) (M:Mk) (w:World) (h:Yg w gc gm M):Calls Tryz.prog 119 #[.pointer (some ⟨gm,0,none⟩)] w λ e w'=>Below w.heap.size w w'/\∃ (nm:Bt) (ok:Bool),e=.returned (.tuple #[.string (st nm),.bool ok])/\(ok=true->okN nm):=by
 have HM:=Xj h
 clear h
 have HNM:=Xj (Tq w)
 go_enter Tryz.func119,Tryz.ntmps119
 go_wp2_with fail
 refine HNM.o.mono ?_
 rintro e w1 ⟨rfl,hw1⟩
 have hb:Below w.heap.size w w1:=by rw[hw1];exact Xw _ _
 have hn:=heap_alloc_new w (.cells (Zm namesL).toArray 9)
 rw[<- hw1] at hn
 have HB:=Xj hb
 have HM1:=Xj (HM.o.below hb)
 obtain⟨gn,hgn⟩:∃ gn,w.heap.size=gn:=⟨_,rfl⟩
 rw[hgn] at hn ⊢
 have HN:Xq (∀ j x,namesL[j]?=some x->w1.cell? ⟨gn,j,none⟩=some (.string (st x))):=Xj (λ j x hj=>by
  rw[cell_of_row w1 gn j _ _ _ hn]
  show (Zm namesL).toArray[j]?=_
  rw[List.getElem?_toArray];unfold Zm;rw[List.getElem?_map,hj];rfl)
 clear hw1 hb hn hgn HNM
 obtain⟨al,cl,hvl,hll,hxm,hkv,hls⟩:=Eq.of_own HM1.o.lo
 have hln:=HM.o.ln
 have HLS:=Xj hls
 have HVL:=Xj hvl
 have hqb:Xq (∀ W,Below w1.heap.size w1 W->W.cell? ⟨gm,3,none⟩=some (.slice al M.ls.length cl)):=Xj (λ W hW=>by
  rw[<- HVL.o];exact cell_of_row _ _ 3 _ _ _ (HM1.o.below hW).row)
 clear hvl hll hls
 go_upto_block 0 with fail
 go_wp2_with fail
 go_loopw [5] (λ v5 wr=>∃ i:Nat,i<=8/\v5=.int .i64 i/\Xq (Below w1.heap.size w1 wr)) (λ v5 _=>8-(intOf v5).toNat)
 case atStart=>exact⟨0,by omega,rfl,Xj (Below.refl _ _)⟩
 obtain⟨i,hi,rfl,HR⟩:=hrel
 by_cases hlt:i<8
 ·obtain⟨x,hx⟩:∃ x,namesL[i]?=some x:=⟨_,List.getElem?_eq_getElem hlt⟩
  have HNX:Xq (∀ W,Below w1.heap.size w1 W->W.cell? ⟨gn,i,none⟩=some (.string (st x))):=Xj (λ W hW=>by
   have:=HN.o i x hx
   exact(hW.cell (p:=⟨gn,i,none⟩) (block_lt_of_cell this)).trans this)
  have HOK:Xq (okN x):=Xj (Tz x (List.mem_of_getElem? hx))
  clear hx
  go_upto_block 2 with fail
  go_wp2_with fail
  go_loopw [6,7] (λ v6 v7 wq=>∃ (k:Nat) (u:Bool),k<=M.ls.length/\v6=.bool u/\v7=.int .i64 k/\Xq (Below w1.heap.size w1 wq)) (λ _ v7 _=>M.ls.length-(intOf v7).toNat)
  case atStart=>exact⟨0,false,by omega,rfl,rfl,HR⟩
  clear HR
  obtain⟨k,u,hk,rfl,rfl,HR⟩:=hrel
  have c3:=hqb.o _ HR.o
  have hnx:=HNX.o _ HR.o
  by_cases hlk:k<M.ls.length
  ·obtain⟨y,hy⟩:∃ y,M.ls[k]?=some y:=⟨_,List.getElem?_eq_getElem hlk⟩
   obtain⟨bl,ol,rfl,hbl,hyc⟩:=HLS.o k y hy
   have hyc2:=(HR.o.cell (p:=⟨bl,ol+k,none⟩) hbl).trans hyc
   have k0:(0:Int)<=(k:Int):=by omega
   have k1:(k:Int)<(M.ls.length:Int):=by omega
   have i0:(0:Int)<=(i:Int):=by omega
   have i1:(i:Int)<8:=by omega
   clear hy hyc
   cases u
   ·obtain⟨bq,hbq⟩:∃ b,(st y==st x)=b:=⟨_,rfl⟩
    go_wp2_with fail
    go_quiet (fail)
    go_wp2_with fail
    go_roundw
    case rel=>exact⟨k+1,_,by omega,rfl,by go_num,Xj (HR.o.trans ⟨rfl,rfl,rfl,Nat.le_refl _,λ _ _=>rfl⟩)⟩
    simp[intOf];omega
   go_wp2_with fail
   go_quiet (fail)
   go_wp2_with fail
   go_roundw
   case rel=>exact⟨k+1,_,by omega,rfl,by go_num,Xj (HR.o.trans ⟨rfl,rfl,rfl,Nat.le_refl _,λ _ _=>rfl⟩)⟩
   simp[intOf];omega
  obtain rfl:k=M.ls.length:=by omega
  cases u
  ·go_wp2_with fail
   refine bodyPost_ret (v:=.tuple #[.string (st x),.bool true]) (by simp[results,Tryz.results119,go_sem]) rfl ?_
   exact⟨HB.o.trans (HR.o.mono HB.o.size),x,true,rfl,λ _=>HOK.o⟩
  go_wp2_with fail
  go_roundw
  case rel=>exact⟨i+1,by omega,by go_num,HR⟩
  simp[intOf];omega
 obtain rfl:i=8:=by omega
 go_wp2_with fail
 refine bodyPost_ret (v:=.tuple #[.string (st []),.bool false]) (by simp[results,Tryz.results119,go_sem]) rfl ?_
 exact⟨HB.o.trans (HR.o.mono HB.o.size),[],false,rfl,λ h=>nomatch h⟩
def Jq (w:World) (k:Nat):Prop:=∃ cs t fr,w.heap[k]?=some (.cells cs t fr)/\(t=37\/t=110)
theorem Jq.ne_own {w:World} {k base e size n:Nat} {v:Value} {xs:List Value} (h:Jq w k) (ho:w.ownsRow base e size v n xs) (he:e≠37/\e≠110):v.ownBlock≠some k:=by
 obtain⟨cs,t,fr,h1,h2⟩:=h
 rcases ho.2 with⟨rfl,_⟩|⟨g,cap,cur,rfl,_,hg,_⟩
 ·intro e;cases e
 intro e1
 have e2:g=k:=by simpa [Value.ownBlock] using e1
 subst e2
 rw[hg] at h1
 injection h1 with h1
 injection h1 with _ h1 _
 subst h1
 rcases h2 with h2|h2
 ·exact he.1 h2
 exact he.2 h2
theorem Yg.tree {w w':World} {gc gm:Nat} {M:Mk} {r:Option Nat} (h:Yg w gc gm M) (hg:w.grownBy w' r) (hr:∀ k,r=some k->gc<k/\Jq w k):Yg w' gc gm M :=
 have hne:∀ k,r=some k->k≠gm:=λ k hk e=>by
  subst e
  obtain⟨_,cs,t,fr,h1,h2⟩:=hr k hk
  rw[h.row] at h1
  injection h1 with h1
  injection h1 with _ h1 _
  subst h1
  rcases h2 with h2|h2<;>exact absurd h2 (by decide)
 have key:∀ {e k n:Nat} {u:Value} {l:List Value},e≠37/\e≠110->w.ownsRow (gm+1) e k u n l->w'.ownsRow (gm+1) e k u n l:=λ {e k n u l} he h1=>by
  refine h1.kept hg ?_
  cases hq:u.ownBlock with
  | none=>exact .inl rfl
  | some q=>exact .inr (λ e1=>(hr q e1.symm).2.ne_own h1 he hq)
 {h with
  cod:=h.cod.keep λ k hk=>hg.block k (by have:=h.cod.lt;omega) (λ e=>by have:=(hr k e.symm).1;omega)
  row:=(hg.block gm (Xv h.row) (λ e=>hne gm e.symm rfl)).trans h.row
  gl:=key ⟨by decide,by decide⟩ h.gl
  fn:=key ⟨by decide,by decide⟩ h.fn
  lo:=key ⟨by decide,by decide⟩ h.lo }
theorem Chg.own {w wx wy:World} {gc gm:Nat} {M M':Mk} {r:Option Nat} (h:Chg w wx gc gm M M') (hg:wx.grownBy wy r) (hr:∀ k,r=some k->w.heap.size<=k):Chg w wy gc gm M M' :=
 ⟨hg.os.trans h.os,hg.tape.trans h.tape,hg.output.trans h.output,Nat.le_trans h.size hg.size,
  λ k hk h1 h2 h3=>(hg.block k (Nat.lt_of_lt_of_le hk h.size) (λ e=>by have:=hr k e.symm;omega)).trans (h.block k hk h1 h2 h3),h.vl,h.ga,h.gb,h.gg,h.gf⟩
abbrev zst:Obj:=.cells #[.int .i64 0,.int .i64 0,.string { data := #[] },.slice none 0 0,.slice none 0 0,.slice none 0 0] 110 (0,0)
structure StW (w:World) (gc gm:Nat) (M M':Mk) (g:Nat) (wx:World):Prop where
 eg:g=w.heap.size
 row:wx.heap[g]?=some zst
 mkr:Yg wx gc gm M'
 chg:Chg w wx gc gm M M'
 lc:gc<g
 lm:gm<g
theorem StW.start {w:World} {gc gm:Nat} {M:Mk} (h:Yg w gc gm M):StW w gc gm M M w.heap.size (w.alloc zst) :=
 ⟨rfl,heap_alloc_new w _,h.below (Xw _ _),Chg.of_below (Xw _ _),by have:=h.lt2;omega,by have:=h.lt2;omega⟩
theorem StW.lts {w:World} {gc gm:Nat} {M M':Mk} {g:Nat} {wx:World} (h:StW w gc gm M M' g wx):g<wx.heap.size:=Xv h.row
theorem StW.tree {w:World} {gc gm:Nat} {M M':Mk} {g:Nat} {wx:World} (h:StW w gc gm M M' g wx):Jq wx g:=⟨_,_,_,h.row,.inr rfl⟩
theorem StW.grown {w:World} {gc gm:Nat} {M M':Mk} {g:Nat} {wx wy:World} (h:StW w gc gm M M' g wx) (hg:wx.grownBy wy (some gc)) (hc:Cod wy gc):StW w gc gm M M' g wy :=
 ⟨h.eg,(hg.block g h.lts (λ e=>by injection e with e;have:=h.lc;omega)).trans h.row,h.mkr.grown hg hc,h.chg.trans (Chg.of_grown hg),h.lc,h.lm⟩
theorem StW.below {w:World} {gc gm:Nat} {M M':Mk} {g:Nat} {wx wy:World} (h:StW w gc gm M M' g wx) (hb:Below wx.heap.size wx wy):StW w gc gm M M' g wy :=
 h.grown (Xg hb _) (h.mkr.cod.below hb h.mkr.cod.lt)
theorem StW.step {w:World} {gc gm:Nat} {M M1 M2:Mk} {g:Nat} {wx wy:World} (h:StW w gc gm M M1 g wx) (hc:Chg wx wy gc gm M1 M2) (hm:Yg wy gc gm M2):StW w gc gm M M2 g wy :=
 ⟨h.eg,(hc.block g h.lts (by have:=h.lc;omega) (by have:=h.lm;omega) (λ e=>(h.tree.ne_own h.mkr.lo ⟨by decide,by decide⟩) e.symm)).trans h.row,hm,h.chg.trans hc,h.lc,h.lm⟩
theorem StW.cells {w:World} {gc gm:Nat} {M M':Mk} {g:Nat} {wx:World} (h:StW w gc gm M M' g wx) :
  g<wx.heap.size/\wx.frozen? ⟨g,0,none⟩=false/\wx.frozen? ⟨g,1,none⟩=false/\wx.frozen? ⟨g,2,none⟩=false/\wx.frozen? ⟨g,3,none⟩=false/\wx.frozen? ⟨g,4,none⟩=false/\wx.frozen? ⟨g,5,none⟩=false /\
  wx.cell? ⟨g,0,none⟩=some (.int .i64 0)/\wx.cell? ⟨g,1,none⟩=some (.int .i64 0)/\wx.cell? ⟨g,2,none⟩=some (.string { data := #[] })/\wx.cell? ⟨g,3,none⟩=some (.slice none 0 0)/\wx.cell? ⟨g,4,none⟩=some (.slice none 0 0)/\wx.cell? ⟨g,5,none⟩=some (.slice none 0 0) :=
 ⟨h.lts,frozen_of_row _ g 0 _ _ h.row,frozen_of_row _ g 1 _ _ h.row,frozen_of_row _ g 2 _ _ h.row,frozen_of_row _ g 3 _ _ h.row,frozen_of_row _ g 4 _ _ h.row,frozen_of_row _ g 5 _ _ h.row,Yu h.row⟩
def Vf (deep:Nat) (M M':Mk) (k:Int) (nm:Bt) (xs:Fo) (th el:Sf):Prop :=
 0<=M'.bud/\M'.ls.length+M'.bud<=9/\(Zd k 0 nm xs th el).wf/\((Zd k 0 nm xs th el).cst:Int)<=1300+1300*(M.bud-M'.bud)/\(Zd k 0 nm xs th el).nst<=deep+1/\(Zd k 0 nm xs th el).hgt<=3
theorem StW.fin {w:World} {gc gm deep:Nat} {M M':Mk} {g:Nat} {wx:World} (h:StW w gc gm M M' g wx) {k:Int} {nm:Bt} {xs:Fo} {th el:Sf} {slx slt sle:Value}
  (hx:Xk wx (TB (g+1) M') xs slx) (ht:Xl wx (TB (g+1) M') th slt) (he:Xl wx (TB (g+1) M') el sle) (hG:Vf deep M M' k nm xs th el) :
  ∀ W,W=set6 wx g (.int .i64 k) (.int .i64 0) (.string (st nm)) slx slt sle ->
   W.cell? ⟨g,0,none⟩=some (.int .i64 k)/\W.cell? ⟨g,1,none⟩=some (.int .i64 0)/\W.cell? ⟨g,2,none⟩=some (.string (st nm))/\W.cell? ⟨g,3,none⟩=some slx/\W.cell? ⟨g,4,none⟩=some slt/\W.cell? ⟨g,5,none⟩=some sle/\Xq (Vr gc gm deep M w (.returned (stv k 0 nm slx slt sle)) W):=λ W hW=>by
 subst hW
 obtain⟨q0,q1,q2,q3,q4,q5⟩:=Yu (Qj (v0:=.int .i64 k) (v1:=.int .i64 0) (v2:=.string (st nm)) (v3:=slx) (v4:=slt) (v5:=sle) h.row)
 have hk:∀ b,TB (g+1) M' b->b<wx.heap.size->(set6 wx g (.int .i64 k) (.int .i64 0) (.string (st nm)) slx slt sle).heap[b]?=wx.heap[b]?/\TB w.heap.size M' b:=λ b hb _ =>
  ⟨Yx b (by have:=hb.1;omega),by have:=hb.1;have:=h.eg;omega,hb.2⟩
 have hs:wx.heap.size<=(set6 wx g (.int .i64 k) (.int .i64 0) (.string (st nm)) slx slt sle).heap.size:=by rw[Zv];exact Nat.le_refl _
 have hg:=Uq wx g (.int .i64 k) (.int .i64 0) (.string (st nm)) slx slt sle
 refine⟨q0,q1,q2,q3,q4,q5,Xj ⟨k,nm,xs,th,el,slx,slt,sle,M',rfl,hx.keep hk hs,ht.keep hk hs,he.keep hk hs,?_,?_,hG.1,hG.2.1,hG.2.2.1,hG.2.2.2.1,hG.2.2.2.2⟩⟩
 ·exact h.chg.own hg (λ k hk=>by injection hk with hk;have:=h.eg;omega)
 exact h.mkr.tree hg (λ k hk=>by injection hk with hk;subst hk;exact⟨h.lc,h.tree⟩)
theorem Yw {w w':World} {base e k n:Nat} {v:Value} {l:List Value} (h:w.ownsRow base e k v n l) (hb:∀ q,v.ownBlock=some q->w'.heap[q]?=w.heap[q]?):w'.ownsRow base e k v n l:=by
 refine⟨h.1,?_⟩
 rcases h.2 with h2|⟨g,cap,cur,rfl,h3,h4,h5⟩
 ·exact .inl h2
 exact .inr ⟨g,cap,cur,rfl,h3,(hb g rfl).trans h4,h5⟩
theorem Jq.of_own {w:World} {base e k n q:Nat} {v:Value} {l:List Value} (h:w.ownsRow base e k v n l) (he:e=37\/e=110) (hq:v.ownBlock=some q):Jq w q:=by
 rcases h.2 with⟨rfl,_⟩|⟨g,cap,cur,rfl,h3,h4,h5⟩
 ·cases hq
 have:g=q:=by simpa [Value.ownBlock] using hq
 subst this
 exact⟨_,_,_,h4,he⟩
theorem Chg.tree {w w':World} {gc gm lo e k n:Nat} {M M':Mk} {v:Value} {l:List Value} (h:Chg w w' gc gm M M') (hM:Yg w gc gm M) (ho:w.ownsRow lo e k v n l) (he:e=37\/e=110) (h1:gc<lo) (h2:gm<lo):w'.ownsRow lo e k v n l :=
 Yw ho λ q hq=>by
  have hl:=ho.lt q hq
  exact h.block q hl.2 (by omega) (by omega) (λ e1=>(Jq.of_own ho he hq).ne_own hM.lo ⟨by decide,by decide⟩ e1.symm)
theorem Ik {wB wS w9:World} {gc gm lo e g9 n:Nat} {M2 M3:Mk} {v:Value} {S N:Sf} {xs ds:List Value} {ob:Obj} (hS:Zz wB (λ b=>TB lo M2 b/\some b≠v.ownBlock) S xs) (hjz:wB.ownsRow lo e 6 v n xs)
  (hc:Chg wB wS gc gm M2 M3) (h1:gc<lo) (h2:gm<lo) (hlo:lo<=wB.heap.size) (hN:Zz wS (TB wB.heap.size M3) N ds) (hg9:(wS.alloc ob).grownBy w9 v.ownBlock) (h9:v.ownBlock=some g9\/g9=(wS.alloc ob).heap.size) :
  Zz w9 (λ b=>TB lo M3 b/\some b≠some g9) (S.app N) (xs++ds):=by
 have hs:=hc.size
 have hsA:(wS.alloc ob).heap.size=wS.heap.size+1:=by simp
 have hs9:=hg9.size
 refine Zz.app (hS.keep (λ b hb hlt=>⟨?_,(hc.kp h1 h2 b hb.1 hlt).2,?_⟩) (by omega)) (hN.keep (λ b hb hlt=>⟨?_,⟨by have:=hb.1;omega,hb.2⟩,?_⟩) (by omega))
 ·rw[hg9.block b (by omega) hb.2,Below.heap_alloc wS ob b (by omega),(hc.kp h1 h2 b hb.1 hlt).1]
 ·rcases h9 with h9|h9
  ·rw[<- h9];exact hb.2
  simp;omega
 ·have:=hb.1
  rw[hg9.block b (by omega) (λ e=>by have:=(hjz.lt b e.symm).2;omega),Below.heap_alloc wS ob b (by omega)]
 have:=hb.1
 rcases h9 with h9|h9
 ·have:=(hjz.lt g9 h9).2;simp;omega
 simp;omega
theorem Yg.bud {w:World} {gc gm:Nat} {M:Mk} (h:Yg w gc gm M) (z:Int):Yg (w.setCell ⟨gm,4,none⟩ (.int .i64 z)) gc gm { M with bud:=z } :=
 have hg:=Xp w gm 4 (.int .i64 z)
 {cod:=h.cod.keep λ k hk=>heap_setCell_other w ⟨gm,4,none⟩ k _ (by have:=h.lt;show k≠gm;omega)
  lt:=h.lt
  row:=heap_setCell_same _ gm 4 _ _ (.int .i64 z) h.row
  gl:=Yz h.gl hg (by omega)
  fn:=Yz h.fn hg (by omega)
  lo:=Yz h.lo hg (by omega)
  gok:=h.gok,fok:=h.fok,lok:=h.lok,gn:=h.gn,fn1:=h.fn1,fn2:=h.fn2,ln:=h.ln }
theorem Chg.bud {w:World} {gc gm:Nat} {M:Mk} (z:Int):Chg w (w.setCell ⟨gm,4,none⟩ (.int .i64 z)) gc gm M { M with bud:=z } :=
 ⟨rfl,rfl,rfl,by simp[World.setCell],λ k _ _ h2 _=>heap_setCell_other w ⟨gm,4,none⟩ k _ h2,λ k hk _=>hk,rfl,rfl,rfl,rfl⟩
def Ot (gc gm deep:Nat) (M:Mk) (w:World) (v:Value) (k:Nat) (wr:World):Prop :=
 ∃ (S:Sf) (xs:List Value) (M':Mk),S.len=k/\wr.ownsRow w.heap.size 110 6 v k xs/\Zz wr (λ b=>TB w.heap.size M' b/\some b≠v.ownBlock) S xs/\Chg w wr gc gm M M'/\Yg wr gc gm M' /\
  0<=M'.bud/\M'.ls.length+M'.bud<=9/\S.wf/\(S.cst:Int)<=1300*(M.bud-M'.bud)/\S.nst<=deep+1/\S.hgt<=3
theorem Mw (gc gm deep most:Nat) (hm:most<=9) (HS:∀ M W,Yg W gc gm M->0<=M.bud->M.ls.length+M.bud<=8->Calls Tryz.prog 70 #[.pointer (some ⟨gm,0,none⟩),.int .i64 (deep:Int)] W (Vr gc gm deep M W)) (M:Mk) (w:World) (h:Yg w gc gm M) (h0:0<=M.bud) (h9:M.ls.length+M.bud<=9) :
  Calls Tryz.prog 34 #[.pointer (some ⟨gm,0,none⟩),.int .i64 (deep:Int),.int .i64 (most:Int)] w (Gc gc gm deep M w):=by
 have HST:=Xj HS
 have HM:=Xj h
 obtain⟨i0,hi0,hz0,hz1,hz2⟩:=info_parts Tryz.infoStmt
 have HI:=Xj hi0
 have HZ0:=Xj hz0
 have HZ1:=Xj hz1
 have HZ2:=Xj hz2
 clear hi0 hz0 hz1 hz2 HS
 have HST0:Xq (Ot gc gm deep M w (.slice none 0 0) 0 w):=Xj ⟨.nil,[],M,rfl,World.ownsRow_nil _ _ _ _,rfl,Chg.of_below (Below.refl _ _),h,h0,h9,trivial,by simp[Sf.cst],by simp[Sf.nst],by simp[Sf.hgt]⟩
 clear h h0 h9
 go_enter Tryz.func34,Tryz.ntmps34
 go_upto_block 0 with fail
 go_wp2_with fail
 go_loopw [7,8] (λ v7 v8 wr=>∃ k:Nat,k<=most/\v8=.int .i64 k/\Xq (Ot gc gm deep M w v7 k wr)) (λ _ v8 _=>most-(intOf v8).toNat)
 case atStart=>exact⟨0,by omega,rfl,HST0⟩
 clear HST0
 obtain⟨k,hk,rfl,HB⟩:=hrel
 obtain⟨S,xs,M1,He,hjz,hS,hch,hmk,hb0,hb9,hw,hqk,hjt,hqj⟩:=HB.o
 have c4:=cell_of_row _ _ 4 _ _ _ hmk.row
 have f4:=frozen_of_row _ gm 4 _ _ hmk.row
 have jm:=Xv hmk.row
 have HGM:Xq (gc<w.heap.size/\gm<w.heap.size):=Xj (by have:=HM.o.lt2;omega)
 obtain⟨z,hz⟩:∃ z,M1.bud=z:=⟨_,rfl⟩
 rw[hz] at c4
 have hz0:0<=z:=by omega
 have hz9:z<=9:=by omega
 have HBZ:=Xj hz
 have hxn:=Xj He
 have HOWN:=Xj hjz
 have HS:=Xj hS
 have HCH:=Xj hch
 have HMK:=Xj hmk
 have HW:=Xj hw
 have HN:=Xj (And.intro hb9 (And.intro hqk (And.intro hjt hqj)))
 clear He hjz hS hch hmk hb0 hb9 hw hqk hjt hqj hz
 by_cases hgo:k<most/\0<z
 ·obtain⟨hlt,hzp⟩:=hgo
  have dz:decide ((0:Int)<z)=true:=by rw[decide_eq_true_iff];exact hzp
  go_upto_region 6 with fail
  have HMB:=Xj (HMK.o.bud (z-1))
  have HCB:=Xj (Chg.bud (w:=wr) (gc:=gc) (gm:=gm) (M:=M1) (z-1))
  have HOB:=Xj (HCB.o.tree HMK.o HOWN.o (.inr rfl) HGM.o.1 HGM.o.2)
  have HSB:Xq (Zz (wr.setCell ⟨gm,4,none⟩ (.int .i64 (z-1))) (λ b=>TB w.heap.size { M1 with bud:=z-1 } b/\some b≠u7.ownBlock) S xs):=Xj (HS.o.keep (λ b hb hlt=>⟨(HCB.o.kp HGM.o.1 HGM.o.2 b hb.1 hlt).1,hb⟩) HCB.o.size)
  have H5:=HST.o _ _ HMB.o (show 0<=z-1 by omega) (by show (M1.ls.length:Int)+(z-1)<=8;have:=HN.o.1;have:=HBZ.o;omega)
  have HCL:=Xj H5
  clear H5
  obtain⟨wB,hwB⟩:∃ wB,wr.setCell ⟨gm,4,none⟩ (.int .i64 (z-1))=wB:=⟨_,rfl⟩
  rw[hwB] at HMB HCB HOB HSB HCL ⊢
  clear hwB c4 f4 jm
  go_wp2_with fail
  refine HCL.o.mono ?_
  rintro e wS ⟨ks,nm,xs2,th,el,slx,slt,sle,M3,rfl,hax,hst,hse,hch3,hmk3,hb30,hb39,hwf3,hyt,huj,huq⟩
  have HN2:=Xj (Zz.one (k:=ks) (ln:=0) (nm:=nm) hax hst hse)
  obtain⟨ax,cx,_,rfl,_⟩:=hax
  obtain⟨ath,cth,_,rfl,_⟩:=hst
  obtain⟨ael,cel,_,rfl,_⟩:=hse
  have hbu:=Xj hch3
  have HMK3:=Xj hmk3
  have HG3:=Xj (And.intro hb30 (And.intro hb39 (And.intro hwf3 (And.intro hyt (And.intro huj huq)))))
  have HOS:=Xj (hbu.o.tree HMB.o HOB.o (.inr rfl) HGM.o.1 HGM.o.2)
  clear hch3 hmk3 hb30 hb39 hwf3 hyt huj huq
  have HOA:=Xj (HOS.o.alloc (.cells (stc ks 0 nm (.slice ax xs2.len cx) (.slice ath th.len cth) (.slice ael el.len cel)).toArray 110))
  have hsb:w.heap.size<=wS.heap.size+1:=by have:=HCH.o.size;have:=HCB.o.size;have:=hbu.o.size;omega
  go_wp2_with (at_builtin;refine wpList_append_lies _ rfl _ _ _ rfl w.heap.size 110 i0 _ 6 104 Tryz.underlying61 HI.o HZ0.o HZ1.o HZ2.o rfl (by omega) _ _ _ rfl HOA.o ⟨wS.heap.size,0,none⟩ 1 1 (stc ks 0 nm (.slice ax xs2.len cx) (.slice ath th.len cth) (.slice ael el.len cel)) rfl rfl (World.news_of_block (cs:=(stc ks 0 nm (.slice ax xs2.len cx) (.slice ath th.len cth) (.slice ael el.len cel)).toArray) (t:=110) (fr:=(0,0)) (heap_alloc_new wS _)) (by simp[Value.oneCell']) (by omega) (by unfold maxLen;omega) (by omega) (by simp;omega) _ rfl ?_;intro g9 c9 w9 hown9 hgrow9 Ho hlt9;have HO9:=Xj hown9;have HG9:=Xj hgrow9;have HR9:=Xj Ho;clear hown9 hgrow9 Ho hlt9)
  go_roundw
  case rel =>
   have hsz:w.heap.size<=wB.heap.size:=by have:=HCH.o.size;have:=HCB.o.size;omega
   refine⟨k+1,by omega,by go_num,Xj ⟨S.app (Zd ks 0 nm xs2 th el),xs++stc ks 0 nm (.slice ax xs2.len cx) (.slice ath th.len cth) (.slice ael el.len cel),M3,by rw[Sf.len_app,hxn.o];rfl,HO9.o,?_,?_,?_,HG3.o.1,HG3.o.2.1,Sf.wf_app HW.o HG3.o.2.2.1,?_,?_,?_⟩⟩
   ·exact Ik HSB.o HOB.o hbu.o HGM.o.1 HGM.o.2 hsz HN2.o HG9.o HR9.o
   ·exact(((HCH.o.trans HCB.o).trans hbu.o).trans (Chg.of_below (Xw _ _))).own HG9.o (λ q hq=>(HOA.o.lt q hq).1)
   ·exact(HMK3.o.below (Xw _ _)).tree HG9.o (λ q hq=>⟨by have:=(HOA.o.lt q hq).1;have:=HGM.o.1;omega,Jq.of_own HOA.o (.inr rfl) hq⟩)
   ·have h1:=HN.o.2.1
    have h2:=HG3.o.2.2.2.1
    have h3:=HBZ.o
    rw[Sf.cst_app]
    omega
   ·have h1:=HN.o.2.2.1
    have h2:=HG3.o.2.2.2.2.1
    rw[Sf.nst_app];omega
   have h1:=HN.o.2.2.2
   have h2:=HG3.o.2.2.2.2.2
   rw[Sf.hgt_app];omega
  simp[intOf];omega
 have HFN:Xq (Gc gc gm deep M w (.returned u7) wr):=Xj ⟨S,u7,xs,M1,rfl,by rw[hxn.o];exact HOWN.o,HS.o,HCH.o,HMK.o,by rw[HBZ.o];exact hz0,HN.o.1,HW.o,HN.o.2.1,HN.o.2.2.1,HN.o.2.2.2⟩
 by_cases hlt:k<most
 ·have dz:decide ((0:Int)<z)=false:=by rw[decide_eq_false_iff_not];exact λ h=>hgo ⟨hlt,h⟩
  go_wp2_with fail
  refine bodyPost_ret (v:=u7) (by simp[results,Tryz.results34,go_sem]) rfl ?_
  exact HFN.o
 obtain rfl:k=most:=by omega
 go_wp2_with fail
 refine bodyPost_ret (v:=u7) (by simp[results,Tryz.results34,go_sem]) rfl ?_
 exact HFN.o
theorem Zf {w:World} {gc gm base:Nat} {M:Mk} {S:Sf} {sl:Value} {xs:List Value} (ho:w.ownsRow base 110 6 sl S.len xs) (hS:Zz w (λ b=>TB base M b/\some b≠sl.ownBlock) S xs) (hM:Yg w gc gm M):Xl w (TB base M) S sl :=
 Xl.of_own (e:=110) (size:=6) ho (hS.keep (λ b hb _=>⟨rfl,hb.1⟩) (Nat.le_refl _)) (λ b hb=>⟨(ho.lt b hb).1,λ e=>(Jq.of_own ho (.inr rfl) hb).ne_own hM.lo ⟨by decide,by decide⟩ e.symm⟩)
theorem Ym {w:World} {P:Nat->Prop} {h:Hd} {ar:Fo} {sl:Value} {g:Nat} (hg:w.heap[g]?=some (.cells (hdc h sl).toArray 37 (0,0))) (ha:Xk w P ar sl) (hP:P g):Xk w P (Xh h ar) (.slice (some ⟨g,0,none⟩) 1 1) :=
 ⟨some ⟨g,0,none⟩,1,hdc h sl,rfl,Nat.le_refl _,by simp[maxLen],(λ e=>nomatch e),λ _=>⟨g,0,rfl,hP,Xv hg,λ j u hj=>by
  rw[Nat.zero_add,cell_of_row w g j _ _ _ hg,List.getElem?_toArray];exact hj⟩,Xk.one ha⟩
theorem Rt {wx:World} {gc gm:Nat} {M:Mk} (hM:Yg wx gc gm M) (hn:0<M.ls.length):∃ bl cl,M.vl=.slice (some ⟨bl,0,none⟩) M.ls.length cl/\M.ls.length<=cl/\cl<=9223372036854775807/\gm<bl/\bl<wx.heap.size /\
  ∀ W,wx.grownBy W (some gc)->W.cell? ⟨gm,0,none⟩=some (.pointer (some ⟨gc,0,none⟩))/\W.cell? ⟨gm,3,none⟩=some (.slice (some ⟨bl,0,none⟩) M.ls.length cl)/\∀ j x,M.ls[j]?=some x->W.cell? ⟨bl,j,none⟩=some (.string (st x)):=by
 have hne:Zm M.ls≠[]:=λ e=>by have:=congrArg List.length e;simp at this;rw[this] at hn;simp at hn
 obtain⟨g,cap,hv,hb,hl,h1,h2,_,hc⟩:=Kw hM.lo hne
 have Hi:=hM.row
 rw[hv] at Hi
 have hlt:=hM.lt
 refine⟨g,cap,hv,h1,by have:=h2;unfold maxLen at this;omega,by omega,hl,λ W hW=>⟨hW.cell (cell_of_row _ _ 0 _ _ _ Hi) (by simp;omega),hW.cell (cell_of_row _ _ 3 _ _ _ Hi) (by simp;omega),λ j x hj=>?_⟩⟩
 have hs:(Zm M.ls)[j]?=some (.string (st x)):=by unfold Zm;rw[List.getElem?_map,hj];rfl
 exact hW.cell (hc j _ hs) (by simp;omega)
end Go.Proofs.YtldgghnjminhiaaGreatDoor
