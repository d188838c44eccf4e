/-
  WALK of pick. (Filled in from a template of this repo.)
  WALK of leaf. (Filled in from a template of this repo.)
  WALK of call. (Filled in from a template of this repo, printed by mk_dte.py.)
-/
import Derived.Test.YtpcdinelpfbpfaaDoorMdp
import Derived.Deep.CutBlock
import Derived.Deep.CutRange
namespace Go.Proofs.YtpcdinelpfbpfaaDoor
open Go.ChangeShapes Go.WideShapes Go.ChangeAt Go.RowKit
set_option linter.unusedVariables false
set_option linter.unusedSimpArgs false

def GlsAt (w:World) (a:Option Addr) (gs:List (Bt×Int)):Prop := ∀ j x,gs[j]?=some x -> ∃ b off,a=some ⟨b,off,none⟩/\b<w.heap.size /\
 w.cell? ⟨b,off+j * 2,none⟩=some (.string (st x.1))/\w.cell? ⟨b,off+j * 2+1,none⟩=some (.int .i64 x.2)
theorem GlsAt.of_own {w:World} {base n:Nat} {e:TypeId} {v:Value} {gs:List (Bt×Int)} (h:w.ownsRow base e 2 v n (glc gs)) :
  ∃ a cap,v=.slice a n cap/\gs.length=n/\n<=cap/\cap<=maxLen/\GlsAt w a gs:=by
 obtain⟨a,cap,rfl,h1,h2,h3,h4,h5⟩:=Cells.of_own h
 rw [glc_len] at h1
 refine⟨a,cap,rfl,by omega,h2,h3,fun j s hj=>?_⟩
 obtain⟨g1,g2⟩:=glc_get gs j s hj
 obtain⟨b,off,e1,hb,hc⟩:=h4 (fun e=>by rw [e] at g1;simp at g1)
 exact⟨b,off,e1,hb,hc _ _ g1,by rw [Nat.add_assoc];exact hc _ _ g2⟩
def PickOk (M:Mk) (arr:Bool) (nm:Bt):Prop := ∃ g∈M.gs,g.1=nm/\decide (0<g.2)=arr
def PickPost (gc gm:Nat) (M:Mk) (arr:Bool) (w:World) (e:Ending) (w':World):Prop :=
 ∃ (nm:Bt) (ok:Bool),e=.returned (.tuple #[.string (st nm),.bool ok])/\(ok=true->PickOk M arr nm)/\Cod w' gc/\w.grownBy w' (some gc)
set_option maxRecDepth 100000 in
set_option maxHeartbeats 4000000 in
theorem pick_any (gc gm:Nat) (M:Mk) (arr:Bool) (w:World) (h:MkAt w gc gm M):Calls Tryd.prog 47 #[.pointer (some ⟨gm,0,none⟩),.bool arr] w (PickPost gc gm M arr w):=by
 obtain⟨i0,hi0,hz0,hz1,hz2⟩:=info_parts Tryd.infoStr
 have HI:=Lib.hid hi0
 have HZ0:=Lib.hid hz0
 have HZ1:=Lib.hid hz1
 have HZ2:=Lib.hid hz2
 clear hi0 hz0 hz1 hz2
 have HM:=Lib.hid h
 obtain⟨ag,cg,hva,hgl,hgc1,hgc2,_⟩:=GlsAt.of_own h.gl
 have hgn:=h.gn
 have hnn:M.gs.length<=9223372036854775807:=by omega
 have hlt2:=h.lt2
 have hrow:=h.row
 rw [hva] at hrow
 have c0:=cell_of_row _ _ 0 _ _ _ hrow
 have c1:=cell_of_row _ _ 1 _ _ _ hrow
 have HVA:=Lib.hid hva
 have HROW:=Lib.hid hrow
 clear h hva hrow
 go_enter Tryd.func47,Tryd.ntmps47
 go_wp2_with fail
 go_loopw [6,7] (fun v6 v7 wr => ∃ (i:Nat) (acc:List Bt),v7=.int .i64 i/\i<=M.gs.length/\acc.length<=i/\Hid ((∀ l∈acc,PickOk M arr l)/\Below w.heap.size w wr/\wr.ownsRow w.heap.size 9 1 v6 acc.length (strs acc))) (fun _ v7 _=>M.gs.length - (intOf v7).toNat)
 case atStart=>exact⟨0,[],rfl,by omega,by simp,Lib.hid ⟨by simp,Below.refl _ _,World.ownsRow_nil _ _ _ _⟩⟩
 case round =>
  obtain⟨i,acc,rfl,hi,hacc,HR⟩:=hrel
  have hM2:=HM.out.below HR.out.2.1
  have hsz:=HR.out.2.1.size
  clear c0 c1
  have hrow:=hM2.row
  rw [HVA.out] at hrow
  have c0:=cell_of_row _ _ 0 _ _ _ hrow
  have c1:=cell_of_row _ _ 1 _ _ _ hrow
  clear hrow
  by_cases hlt:i<M.gs.length
  ·obtain⟨g,hg⟩ : ∃ g,M.gs[i]?=some g:=⟨_,List.getElem?_eq_getElem hlt⟩
   obtain⟨ag',cg',hva',_,_,_,hgls⟩:=GlsAt.of_own hM2.gl
   rw [HVA.out] at hva'
   injection hva' with e1 e2 e3
   subst e1 e3
   obtain⟨b,off,rfl,hb,g1,g2⟩:=hgls i g hg
   have HMEM:Hid (g∈M.gs):=Lib.hid (List.mem_of_getElem? hg)
   clear hgls hM2 hg
   cases hs:decide ((0:Int)<g.2) <;> cases arr
   ·have HOA:=Lib.hid (HR.out.2.2.alloc (.cells #[.string (st g.1)] 9))
    have HBA:=Lib.hid (HR.out.2.1.alloc HR.out.2.1.size (.cells #[.string (st g.1)] 9))
    have HPK:Hid (PickOk M false g.1):=Lib.hid ⟨g,HMEM.out,rfl,hs⟩
    go_wp2_with (at_builtin;refine wpList_append_own _ rfl _ _ _ rfl w.heap.size 9 i0 _ 1 16 Tryd.underlying27 HI.out HZ0.out HZ1.out HZ2.out rfl (by omega) _ _ _ rfl HOA.out ⟨wr.heap.size,0,none⟩ 1 1 [.string (st g.1)] rfl rfl (World.news_of_block (cs := #[.string (st g.1)]) (t:=9) (fr:=(0,0)) (heap_alloc_new wr _)) (by simp [Value.oneCell']) (by unfold maxLen;omega) (by omega) (by simp;omega) ?_;intro v' w9 hown9 hgrow9 _;have HO9:=Lib.hid hown9;have HG9:=Lib.hid hgrow9;clear hown9 hgrow9)
    go_roundw
    case rel =>
     refine⟨i+1,acc++[g.1],by go_num,by omega,by simp;omega,Lib.hid ⟨?_,HBA.out.grown HG9.out HBA.out.size (fun k hk=>(HOA.out.lt k hk).1),?_⟩⟩
     ·intro l hl
      rw [List.mem_append] at hl
      rcases hl with hl | hl
      ·exact HR.out.1 l hl
      ·simp at hl;subst hl;exact HPK.out
     ·have:=HO9.out
      rw [<- strs_push]
      simpa using this
    case measure=>simp [intOf];omega
   ·go_wp2_with fail
    go_roundw
    case rel=>exact⟨i+1,acc,by go_num,by omega,by omega,HR⟩
    case measure=>simp [intOf];omega
   ·go_wp2_with fail
    go_roundw
    case rel=>exact⟨i+1,acc,by go_num,by omega,by omega,HR⟩
    case measure=>simp [intOf];omega
   ·have HOA:=Lib.hid (HR.out.2.2.alloc (.cells #[.string (st g.1)] 9))
    have HBA:=Lib.hid (HR.out.2.1.alloc HR.out.2.1.size (.cells #[.string (st g.1)] 9))
    have HPK:Hid (PickOk M true g.1):=Lib.hid ⟨g,HMEM.out,rfl,hs⟩
    go_wp2_with (at_builtin;refine wpList_append_own _ rfl _ _ _ rfl w.heap.size 9 i0 _ 1 16 Tryd.underlying27 HI.out HZ0.out HZ1.out HZ2.out rfl (by omega) _ _ _ rfl HOA.out ⟨wr.heap.size,0,none⟩ 1 1 [.string (st g.1)] rfl rfl (World.news_of_block (cs := #[.string (st g.1)]) (t:=9) (fr:=(0,0)) (heap_alloc_new wr _)) (by simp [Value.oneCell']) (by unfold maxLen;omega) (by omega) (by simp;omega) ?_;intro v' w9 hown9 hgrow9 _;have HO9:=Lib.hid hown9;have HG9:=Lib.hid hgrow9;clear hown9 hgrow9)
    go_roundw
    case rel =>
     refine⟨i+1,acc++[g.1],by go_num,by omega,by simp;omega,Lib.hid ⟨?_,HBA.out.grown HG9.out HBA.out.size (fun k hk=>(HOA.out.lt k hk).1),?_⟩⟩
     ·intro l hl
      rw [List.mem_append] at hl
      rcases hl with hl | hl
      ·exact HR.out.1 l hl
      ·simp at hl;subst hl;exact HPK.out
     ·have:=HO9.out
      rw [<- strs_push]
      simpa using this
    case measure=>simp [intOf];omega
  ·obtain rfl:i=M.gs.length:=by omega
   obtain⟨a6,c6,rfl,h61,h62,h63,h64,_⟩:=Cells.of_own HR.out.2.2
   have HCOD:=Lib.hid hM2.cod
   clear h61 h64 hM2
   unfold maxLen at h63
   cases acc with
   | nil =>
    go_wp2_with fail
    refine bodyPost_ret (v:=.tuple #[.string (st []),.bool false]) (by simp [results,Tryd.results47,go_sem]) rfl ?_
    exact⟨[],false,rfl,(fun h=>nomatch h),HCOD.out,grownBy_of_below HR.out.2.1 _⟩
   | cons l0 lr =>
    obtain⟨n,hn⟩ : ∃ n,(l0::lr).length=n:=⟨_,rfl⟩
    have HN:=Lib.hid hn
    have hn1:1<=n:=by rw [<- hn];simp
    have hn2:n<=4:=by omega
    rw [hn] at h62 ⊢
    clear hn
    have dn:((n:Int)==0)=false:=by rw [beq_eq_false_iff_ne];omega
    go_wp2_with fail
    refine(Next_any gc n (by omega) _ HCOD.out).mono ?_
    rintro e w2 ⟨x,rfl,x0,x1,hcod,hg⟩
    obtain⟨x,rfl⟩:=Int.eq_ofNat_of_zero_le x0
    have x2:x<n:=by omega
    have hown:=own_grown HR.out.2.2 hg (by omega)
    obtain⟨_,_,e1,_,_,_,hcs,_⟩:=Cells.of_own hown
    injection e1 with e1 e2 e3
    subst e1
    have hgx:(l0::lr)[x]?=some ((l0::lr).getD x []):=by
     have:=HN.out
     rw [List.getD,List.getElem?_eq_getElem (by omega)];rfl
    obtain⟨nm,hnm⟩ : ∃ nm,(l0::lr).getD x []=nm:=⟨_,rfl⟩
    rw [hnm] at hgx
    have hsx:(strs (l0::lr))[x]?=some (.string (st nm)):=by unfold strs;rw [List.getElem?_map,hgx];rfl
    obtain⟨b,off,rfl,hb,hc⟩:=hcs (fun e=>by rw [e] at hsx;cases hsx)
    have hcx:=hc _ _ hsx
    have HPK:Hid (PickOk M arr nm):=Lib.hid (HR.out.1 nm (List.mem_of_getElem? hgx))
    have HEND:=Lib.hid (grownBy_trans (grownBy_of_below HR.out.2.1 (some gc)) hg)
    have HCD:=Lib.hid hcod
    have hx1':(x:Int)<(n:Int):=by omega
    clear hown hcs hgx hnm hsx hc hg hcod x1
    go_wp2_with fail
    refine bodyPost_ret (v:=.tuple #[.string (st nm),.bool true]) (by simp [results,Tryd.results47,go_sem]) rfl ?_
    exact⟨nm,true,rfl,fun _=>HPK.out,HCD.out,HEND.out⟩
end Go.Proofs.YtpcdinelpfbpfaaDoor
namespace Go.Proofs.YtpcdinelpfbpfaaDoor
open Go.ChangeShapes Go.WideShapes Go.ChangeAt Go.RowKit
set_option linter.unusedVariables false
set_option linter.unusedSimpArgs false

theorem cod_set6 {w:World} {gc b:Nat} {v0 v1 v2 v3 v4 v5:Value} (h:Cod w gc) (hb:gc<b):Cod (set6 w b v0 v1 v2 v3 v4 v5) gc:=h.keep fun k hk=>other_set6 k (by omega)
theorem args_set6 {w:World} {b lo:Nat} {v0 v1 v2 v3 v4 v5:Value} {ar:Fo} {sl:Value} (h:ArgsAt w (fun k=>b<k) ar sl) (hlo:lo<=b):ArgsAt (set6 w b v0 v1 v2 v3 v4 v5) (fun k=>lo<=k) ar sl :=
 h.keep (fun k hk _=>⟨other_set6 k (by omega),by omega⟩) (by rw [size_set6];exact Nat.le_refl _)
structure ExW (w:World) (gc gm:Nat) (M:Mk) (g:Nat) (wx:World):Prop where
 eg:g=w.heap.size
 row:wx.heap[g]?=some zex
 mkr:MkAt wx gc gm M
 gr:w.grownBy wx (some gc)
theorem ExW.start {w:World} {gc gm:Nat} {M:Mk} (h:MkAt w gc gm M):ExW w gc gm M w.heap.size (w.alloc zex) :=
 ⟨rfl,heap_alloc_new w _,h.below (below_alloc _ _),grownBy_of_below (below_alloc _ _) _⟩
theorem ExW.lts {w:World} {gc gm:Nat} {M:Mk} {g:Nat} {wx:World} (h:ExW w gc gm M g wx):g<wx.heap.size:=heap_lt h.row
theorem ExW.grown {w:World} {gc gm:Nat} {M:Mk} {g:Nat} {wx wy:World} (h:ExW w gc gm M g wx) (hl:gc<g) (hg:wx.grownBy wy (some gc)) (hc:Cod wy gc):ExW w gc gm M g wy :=
 ⟨h.eg,(hg.block g h.lts (fun e=>by injection e with e;omega)).trans h.row,h.mkr.grown hg hc,grownBy_trans h.gr hg⟩
theorem ExW.below {w:World} {gc gm:Nat} {M:Mk} {g:Nat} {wx wy:World} (h:ExW w gc gm M g wx) (hb:Below wx.heap.size wx wy):ExW w gc gm M g wy :=
 ⟨h.eg,(hb.block g h.lts).trans h.row,h.mkr.below hb,grownBy_trans h.gr (grownBy_of_below hb _)⟩
theorem ExW.fin {w:World} {gc gm:Nat} {M:Mk} {g:Nat} {wx:World} {d:Nat} (h:ExW w gc gm M g wx) (hl:gc<g) {hd:Hd} {ar:Fo} {sl:Value} (ha:ArgsAt wx (fun k=>g<k) ar sl) (hE:goodE d hd ar) :
  ∀ W,W=set6 wx g (.int .i64 hd.k) (.int .i64 hd.op) (.int .i64 hd.v) (.int .i64 hd.ln) (.string (st hd.nm)) sl ->
   W.cell? ⟨g,0,none⟩=some (.int .i64 hd.k)/\W.cell? ⟨g,1,none⟩=some (.int .i64 hd.op)/\W.cell? ⟨g,2,none⟩=some (.int .i64 hd.v)/\W.cell? ⟨g,3,none⟩=some (.int .i64 hd.ln)/\W.cell? ⟨g,4,none⟩=some (.string (st hd.nm))/\W.cell? ⟨g,5,none⟩=some sl/\Hid (ExPost gc gm d w (.returned (exv hd sl)) W):=fun W hW=>by
 subst hW
 obtain⟨q0,q1,q2,q3,q4,q5⟩:=cells6 (heap_set6 (v0:=.int .i64 hd.k) (v1:=.int .i64 hd.op) (v2:=.int .i64 hd.v) (v3:=.int .i64 hd.ln) (v4:=.string (st hd.nm)) (v5:=sl) h.row)
 exact⟨q0,q1,q2,q3,q4,q5,Lib.hid ⟨hd,ar,sl,rfl,args_set6 ha (Nat.le_of_eq h.eg.symm),hE,cod_set6 h.mkr.cod hl,grown_set6 h.gr (Nat.le_of_eq h.eg.symm)⟩⟩
theorem ExW.cells {w:World} {gc gm:Nat} {M:Mk} {g:Nat} {wx:World} (h:ExW w gc gm M g wx) :
  g<wx.heap.size/\wx.frozen? ⟨g,0,none⟩=false/\wx.frozen? ⟨g,1,none⟩=false/\wx.frozen? ⟨g,2,none⟩=false/\wx.frozen? ⟨g,3,none⟩=false/\wx.frozen? ⟨g,4,none⟩=false/\wx.frozen? ⟨g,5,none⟩=false /\
  wx.cell? ⟨g,0,none⟩=some (.int .i64 0)/\wx.cell? ⟨g,1,none⟩=some (.int .i64 0)/\wx.cell? ⟨g,2,none⟩=some (.int .i64 0)/\wx.cell? ⟨g,3,none⟩=some (.int .i64 0)/\wx.cell? ⟨g,4,none⟩=some (.string { data := #[] })/\wx.cell? ⟨g,5,none⟩=some (.slice none 0 0) :=
 ⟨h.lts,frozen_of_row _ g 0 _ _ h.row,frozen_of_row _ g 1 _ _ h.row,frozen_of_row _ g 2 _ _ h.row,frozen_of_row _ g 3 _ _ h.row,frozen_of_row _ g 4 _ _ h.row,frozen_of_row _ g 5 _ _ h.row,cells6 h.row⟩
theorem MkAt.set {w wx:World} {gc gm:Nat} {M:Mk} {p:Addr} {v:Value} (h:MkAt wx gc gm M) (hM:MkAt w gc gm M) (hp:w.heap.size<=p.block):MkAt (wx.setCell p v) gc gm M :=
 have kp : ∀ b,b≠p.block->(wx.setCell p v).heap[b]?=wx.heap[b]?:=fun b hb=>heap_setCell_other wx p b v hb
 have key : ∀ {e k n:Nat} {u:Value} {l:List Value},wx.ownsRow (gm+1) e k u n l->w.ownsRow (gm+1) e k u n l->(wx.setCell p v).ownsRow (gm+1) e k u n l:=fun {e k n u l} h1 h2=>by
  have hg:wx.grownBy (wx.setCell p v) (some p.block):=⟨rfl,rfl,rfl,by simp [World.setCell],fun k hk hn=>kp k (fun e=>hn (by rw [e]))⟩
  refine h1.kept hg ?_
  cases hq:u.ownBlock with
  | none=>exact .inl rfl
  | some q=>exact .inr (fun e=>by injection e with e;have:=(h2.lt q hq).2;omega)
 {h with
  cod:=h.cod.keep fun k hk=>kp k (by have:=hM.cod.lt;omega)
  row:=(kp gm (by have:=heap_lt hM.row;omega)).trans h.row
  gl:=key h.gl hM.gl
  fn:=key h.fn hM.fn
  lo:=key h.lo hM.lo }
theorem ExW.set {w:World} {gc gm:Nat} {M:Mk} {g:Nat} {wx:World} {p:Addr} {v:Value} (h:ExW w gc gm M g wx) (hp:g<p.block) (hM:MkAt w gc gm M):ExW w gc gm M g (wx.setCell p v) :=
 ⟨h.eg,(heap_setCell_other wx p g v (by omega)).trans h.row,h.mkr.set hM (by have:=h.eg;omega),grown_set1 h.gr (by have:=h.eg;omega)⟩
theorem ExW.set4 {w:World} {gc gm:Nat} {M:Mk} {g b:Nat} {wx:World} {v0 v1 v2 v3:Value} (h:ExW w gc gm M g wx) (hl:gc<g) (hgm:gm<g) (hp:g<b) (hM:MkAt w gc gm M):ExW w gc gm M g (set4 wx b v0 v1 v2 v3) :=
 (((h.set (p:=⟨b,0,none⟩) hp hM).set (p:=⟨b,1,none⟩) hp hM).set (p:=⟨b,2,none⟩) hp hM).set (p:=⟨b,3,none⟩) hp hM
theorem ExW.set6 {w:World} {gc gm:Nat} {M:Mk} {g b:Nat} {wx:World} {v0 v1 v2 v3 v4 v5:Value} (h:ExW w gc gm M g wx) (hp:g<b) (hM:MkAt w gc gm M):ExW w gc gm M g (set6 wx b v0 v1 v2 v3 v4 v5) :=
 (((((h.set (p:=⟨b,0,none⟩) hp hM).set (p:=⟨b,1,none⟩) hp hM).set (p:=⟨b,2,none⟩) hp hM).set (p:=⟨b,3,none⟩) hp hM).set (p:=⟨b,4,none⟩) hp hM).set (p:=⟨b,5,none⟩) hp hM
theorem MkAt.own {w wx wy:World} {gc gm:Nat} {M:Mk} {r:Option Nat} (h:MkAt wx gc gm M) (hM:MkAt w gc gm M) (hg:wx.grownBy wy r) (hr : ∀ k,r=some k->w.heap.size<=k):MkAt wy gc gm M :=
 have hs:=hg.size
 have kp : ∀ b,b<w.heap.size->b<wx.heap.size->wy.heap[b]?=wx.heap[b]?:=fun b hb hbx=>hg.block b hbx (fun e=>by have:=hr b e.symm;omega)
 have key : ∀ {e k n:Nat} {u:Value} {l:List Value},wx.ownsRow (gm+1) e k u n l->w.ownsRow (gm+1) e k u n l->wy.ownsRow (gm+1) e k u n l:=fun {e k n u l} h1 h2=>by
  refine h1.kept hg ?_
  cases hq:u.ownBlock with
  | none=>exact .inl rfl
  | some q=>exact .inr (fun e=>by have:=hr q e.symm;have:=(h2.lt q hq).2;omega)
 {h with
  cod:=h.cod.keep fun k hk=>kp k (by have:=hM.cod.lt;omega) (by have:=h.cod.lt;omega)
  row:=(kp gm (heap_lt hM.row) (heap_lt h.row)).trans h.row
  gl:=key h.gl hM.gl
  fn:=key h.fn hM.fn
  lo:=key h.lo hM.lo }
theorem ExW.own {w:World} {gc gm:Nat} {M:Mk} {g:Nat} {wx wy:World} {r:Option Nat} (h:ExW w gc gm M g wx) (hg:wx.grownBy wy r) (hr : ∀ k,r=some k->g<k) (hM:MkAt w gc gm M) (hl:gc<g):ExW w gc gm M g wy :=
 ⟨h.eg,(hg.block g h.lts (fun e=>by have:=hr g e.symm;omega)).trans h.row,h.mkr.own hM hg (fun k hk=>by have:=hr k hk;have:=h.eg;omega),
  ⟨hg.os.trans h.gr.os,hg.tape.trans h.gr.tape,hg.output.trans h.gr.output,Nat.le_trans h.gr.size hg.size,fun k hk hn=>(hg.block k (Nat.lt_of_lt_of_le hk h.gr.size) (fun e=>by have:=hr k e.symm;have:=h.eg;omega)).trans (h.gr.block k hk hn)⟩⟩
def LsAt (w:World) (a:Option Addr) (ls:List Bt):Prop := ∀ j x,ls[j]?=some x -> ∃ b off,a=some ⟨b,off,none⟩/\b<w.heap.size/\w.cell? ⟨b,off+j,none⟩=some (.string (st x))
theorem LsAt.of_own {w:World} {base n:Nat} {e:TypeId} {v:Value} {ls:List Bt} (h:w.ownsRow base e 1 v n (strs ls)) :
  ∃ a cap,v=.slice a n cap/\ls.length=n/\n<=cap/\cap<=maxLen/\LsAt w a ls:=by
 obtain⟨a,cap,rfl,h1,h2,h3,h4,h5⟩:=Cells.of_own h
 refine⟨a,cap,rfl,by simpa using h1,h2,h3,fun j x hj=>?_⟩
 have hs:(strs ls)[j]?=some (.string (st x)):=by unfold strs;rw [List.getElem?_map,hj];rfl
 obtain⟨b,off,e1,hb,hc⟩:=h4 (fun e=>by rw [e] at hs;cases hs)
 exact⟨b,off,e1,hb,hc _ _ hs⟩
theorem LsAt.get {w:World} {base n cap j:Nat} {e:TypeId} {v:Value} {a:Option Addr} {ls:List Bt} (h:w.ownsRow base e 1 v ls.length (strs ls)) (hv:v=.slice a n cap) (hj:j<ls.length) :
  ∃ nm b off,a=some ⟨b,off,none⟩/\b<w.heap.size/\nm∈ls/\w.cell? ⟨b,off+j,none⟩=some (.string (st nm)):=by
 obtain⟨a',cap',e1,_,_,_,hls⟩:=LsAt.of_own h
 rw [hv] at e1
 injection e1 with e1 e2 e3
 subst e1
 have hx:ls[j]?=some ls[j]:=List.getElem?_eq_getElem hj
 obtain⟨b,off,e,hb,hc⟩:=hls j _ hx
 exact⟨_,b,off,e,hb,List.mem_of_getElem? hx,hc⟩
theorem ok_read:okH ⟨12,0,0,0,[]⟩ .nil:=.inl ⟨rfl,rfl,.inr (.inl ⟨rfl,rfl,rfl⟩)⟩
theorem ok_name {nm:Bt} (h:okN nm):okH ⟨13,0,0,0,nm⟩ .nil:=.inl ⟨rfl,rfl,.inl ⟨rfl,h,rfl⟩⟩
theorem ok_num {z:Int} (h0:0<=z) (h1:z<=9223372036854775807):okH ⟨1,0,z,0,[]⟩ .nil:=.inr (.inl ⟨rfl,rfl,rfl,h0,h1,rfl⟩)
theorem PickOk.nm {w:World} {gc gm:Nat} {M:Mk} {arr:Bool} {nm:Bt} (h:PickOk M arr nm) (hM:MkAt w gc gm M):okN nm:=by
 obtain⟨g,hg,rfl,_⟩:=h
 exact(hM.gok g hg).1
set_option maxRecDepth 100000 in
set_option maxHeartbeats 8000000 in
theorem leaf_any (gc gm d:Nat) (M:Mk) (w:World) (h:MkAt w gc gm M):Calls Tryd.prog 60 #[.pointer (some ⟨gm,0,none⟩)] w (ExPost gc gm d w):=by
 have hx:=ExW.start h
 have HL:Hid (gc<w.heap.size):=Lib.hid (by have:=h.lt2;omega)
 have HP:=Lib.hid (fun W (hW:MkAt W gc gm M)=>pick_any gc gm M false W hW)
 have HM:=Lib.hid h
 go_enter Tryd.func60,Tryd.ntmps60
 go_upto_region 1 with fail
 obtain⟨w1,hw1⟩ : ∃ w1,w.alloc zex=w1:=⟨_,rfl⟩
 rw [hw1] at hx ⊢
 obtain⟨g,hg⟩ : ∃ g,w.heap.size=g:=⟨_,rfl⟩
 rw [hg] at hx HL ⊢
 have HX:=Lib.hid hx
 have hlt2:=hx.mkr.lt2
 have c0:=cell_of_row _ _ 0 _ _ _ hx.mkr.row
 clear hw1 hx h hg
 go_wp2_with fail
 refine(Next_any gc 6 (by omega) _ HX.out.mkr.cod).mono ?_
 rintro e w2 ⟨x,rfl,x0,x1,hcod,hg⟩
 have HX2:=Lib.hid (HX.out.grown HL.out hg hcod)
 clear c0 hcod hg HX hlt2
 clear w1
 go_upto_block 0 with fail
 go_cut [4,5] from 13 to 48 (fun v4 v5 wx=>Hid (ExW w gc gm M g wx))
 case first =>
  by_cases e0:x=0
  ·subst e0
   obtain⟨jl,f0,f1,f2,f3,f4,f5,c0,c1,c2,c3,c4,c5⟩:=HX2.out.cells
   go_wp2_with fail
   obtain⟨q0,q1,q2,q3,q4,q5,HF⟩:=HX2.out.fin HL.out (hd:=⟨12,0,0,0,[]⟩) (ar:=.nil) (sl:=.slice none 0 0) (d:=d) (ArgsAt.nil _ _) (goodE.leaf ok_read rfl rfl (.inr (.inr (.inl rfl))) d) _ rfl
   refine bodyPost_ret (v:=exv ⟨12,0,0,0,[]⟩ (.slice none 0 0)) (by simp [results,Tryd.results60,go_sem,q0,q1,q2,q3,q4,q5]) rfl ?_
   exact HF.out
  have d0:(x==0)=false:=by rw [beq_eq_false_iff_ne];exact e0
  by_cases e1:x=1
  ·subst e1
   clear d0
   go_wp2_with fail
   refine(HP.out _ HX2.out.mkr).mono ?_
   rintro e w3 ⟨nm,ok,rfl,hpk,hcod,hg⟩
   have HX3:=Lib.hid (HX2.out.grown HL.out hg hcod)
   cases ok
   ·clear hpk hg hcod
    go_wp2_with fail
    go_meet
    exact HX3
   ·have HOK:=Lib.hid ((hpk rfl).nm HM.out)
    clear hpk hg hcod
    obtain⟨jl,f0,f1,f2,f3,f4,f5,c0,c1,c2,c3,c4,c5⟩:=HX3.out.cells
    go_wp2_with fail
    obtain⟨q0,q1,q2,q3,q4,q5,HF⟩:=HX3.out.fin HL.out (hd:=⟨13,0,0,0,nm⟩) (ar:=.nil) (sl:=.slice none 0 0) (d:=d) (ArgsAt.nil _ _) (goodE.leaf (ok_name HOK.out) rfl rfl (.inr (.inl rfl)) d) _ rfl
    refine bodyPost_ret (v:=exv ⟨13,0,0,0,nm⟩ (.slice none 0 0)) (by simp [results,Tryd.results60,go_sem,q0,q1,q2,q3,q4,q5]) rfl ?_
    exact HF.out
  have d1:(x==1)=false:=by rw [beq_eq_false_iff_ne];exact e1
  by_cases e2:x=2\/x=3
  ·clear e0 e1 x0 x1
   rcases e2 with rfl | rfl
   ·clear d0 d1
    obtain⟨al,cl,hvl,hll,hlc1,hlc2,hls⟩:=LsAt.of_own HX2.out.mkr.lo
    have hln:=HX2.out.mkr.ln
    have hrow:=HX2.out.mkr.row
    have HMB:Hid (gc<gm/\gm<g):=Lib.hid ⟨HX2.out.mkr.lt,by rw [HX2.out.eg];exact heap_lt HM.out.row⟩
    rw [hvl] at hrow
    have c0:=cell_of_row _ _ 0 _ _ _ hrow
    have c3:=cell_of_row _ _ 3 _ _ _ hrow
    have hgm:=heap_lt hrow
    have HVL:=Lib.hid hvl
    obtain⟨n,hn⟩ : ∃ n,M.ls.length=n:=⟨_,rfl⟩
    rw [hn] at c0 c3 hln hlc1
    have HN:=Lib.hid hn
    clear hn hrow hvl hll
    have HLS:=Lib.hid hls
    clear hls
    by_cases hn0:n=0
    ·subst hn0
     clear HLS
     go_wp2_with fail
     go_meet
     exact HX2
    ·have hn1:(0:Int)<(n:Int):=by omega
     have dn:decide ((0:Int)<(n:Int))=true:=by rw [decide_eq_true_iff];exact hn1
     obtain⟨_,bl,ol,hal,hbl,_,_⟩:=LsAt.get (j:=0) HM.out.lo HVL.out (by rw [HN.out];omega)
     subst hal
     have HBL:Hid (bl<g/\gc<bl):=Lib.hid ⟨by rw [HX2.out.eg];exact hbl,by
      have:=(HX2.out.mkr.lo.lt bl (by rw [HVL.out];rfl)).1
      have:=HMB.out;omega⟩
     clear hbl
     have HRW:Hid (∀ W,w2.grownBy W (some gc)->W.cell? ⟨gm,0,none⟩=some (.pointer (some ⟨gc,0,none⟩))/\W.cell? ⟨gm,3,none⟩=some (.slice (some ⟨bl,ol,none⟩) n cl) /\ ∀ j x,M.ls[j]?=some x->W.cell? ⟨bl,ol+j,none⟩=some (.string (st x))):=Lib.hid (fun W hW=>⟨hW.cell c0 (by simp;have:=HMB.out;omega),hW.cell c3 (by simp;have:=HMB.out;omega),fun j x hj=>by
      obtain⟨b',o',e1,_,hc⟩:=HLS.out j x hj
      injection e1 with e1
      injection e1 with e1 e2
      subst e1 e2
      exact hW.cell hc (by simp;have:=HBL.out;omega)⟩)
     go_upto_region 12 with fail
     refine wp_region_held_drew (S:=(fun w'=>w'.cell? ⟨gm,0,none⟩=some (.pointer (some ⟨gc,0,none⟩))/\w'.cell? ⟨gm,3,none⟩=some (.slice (some ⟨bl,ol,none⟩) n cl) /\ ∀ j x,M.ls[j]?=some x->w'.cell? ⟨bl,ol+j,none⟩=some (.string (st x)))) (by kernel_rfl) (HRW.out _ (grownBy_drewN w2 1 _)) (fun hHeld=>?_)
     refine tkH 0 35 ?_
     refine tkH 1 36 ?_
     refine tkH 2 37 ?_
     refine tkH 3 38 ?_
     refine tkH 4 39 ?_
     refine tkH 5 40 ?_
     refine tkH 6 41 ?_
     refine tkH 7 42 ?_
     refine tkH 8 43 ?_
     refine tkH 9 44 ?_
     refine rdH 10 fun K hK=>?_
     go_simp
     refine(Next_any gc n (by omega) _ HX2.out.mkr.cod.drew).mono ?_
     rintro e wy ⟨y,rfl,y0,y1,hcod,hg0⟩
     obtain⟨y,rfl⟩:=Int.eq_ofNat_of_zero_le y0
     have y2:y<n:=by omega
     have hg:=grownBy_trans (grownBy_drewN w2 1 (some gc)) hg0
     clear hg0
     have HX3:=Lib.hid (HX2.out.grown HL.out hg hcod)
     refine goH hK (HRW.out _ hg) fun hHeld=>?_
     clear hK K
     have hy3:(y:Int)<(n:Int):=by omega
     obtain⟨nm,hnm⟩ : ∃ nm,M.ls[y]?=some nm:=⟨_,List.getElem?_eq_getElem (by rw [HN.out];exact y2)⟩
     have HNM:Hid (okN nm):=Lib.hid (HX3.out.mkr.lok nm (List.mem_of_getElem? hnm))
     clear hg hcod y1
     refine tkH 11 46 ?_
     refine wpAnyH_takeD (i:=12) (d:=some 47) (v:=.string (st nm)) rfl (by kernel_rfl) (by kernel_rfl) (by kernel_rfl) (by kernel_rfl) (fun _ _ _ h=>h) (Or.inl ⟨by kernel_rfl,?_⟩) (by assumption) ?_
     ·(intro w hSw;have hcx:=hSw.2.2 y nm hnm;go_simp;try with_reducible rfl)
     (try simp only [Act.put,List.setIfInBounds_toArray,List.set_cons_zero,List.set_cons_succ])
     refine tkH 13 48 ?_
     obtain⟨jl,f0,f1,f2,f3,f4,f5,r0,r1,r2,r3,r4,r5⟩:=HX3.out.cells
     refine rdH 14 fun K hK=>?_
     go_simp
     refine goH hK ⟨cell_set6 (by have:=HMB.out;omega) hHeld.1,cell_set6 (by have:=HMB.out;omega) hHeld.2.1,fun j x hj=>cell_set6 (by have:=HBL.out;omega) (hHeld.2.2 j x hj)⟩ fun hHeld=>?_
     clear hK K
     refine wpAnyH_done (by kernel_rfl) ?_ _
     go_wp2_with fail
     obtain⟨q0,q1,q2,q3,q4,q5,HF⟩:=HX3.out.fin HL.out (hd:=⟨13,0,0,0,nm⟩) (ar:=.nil) (sl:=.slice none 0 0) (d:=d) (ArgsAt.nil _ _) (goodE.leaf (ok_name HNM.out) rfl rfl (.inr (.inl rfl)) d) _ rfl
     refine bodyPost_ret (v:=exv ⟨13,0,0,0,nm⟩ (.slice none 0 0)) (by simp [results,Tryd.results60,go_sem,q0,q1,q2,q3,q4,q5]) rfl ?_
     exact HF.out
   ·clear d0 d1
    obtain⟨al,cl,hvl,hll,hlc1,hlc2,hls⟩:=LsAt.of_own HX2.out.mkr.lo
    have hln:=HX2.out.mkr.ln
    have hrow:=HX2.out.mkr.row
    have HMB:Hid (gc<gm/\gm<g):=Lib.hid ⟨HX2.out.mkr.lt,by rw [HX2.out.eg];exact heap_lt HM.out.row⟩
    rw [hvl] at hrow
    have c0:=cell_of_row _ _ 0 _ _ _ hrow
    have c3:=cell_of_row _ _ 3 _ _ _ hrow
    have hgm:=heap_lt hrow
    have HVL:=Lib.hid hvl
    obtain⟨n,hn⟩ : ∃ n,M.ls.length=n:=⟨_,rfl⟩
    rw [hn] at c0 c3 hln hlc1
    have HN:=Lib.hid hn
    clear hn hrow hvl hll
    have HLS:=Lib.hid hls
    clear hls
    by_cases hn0:n=0
    ·subst hn0
     clear HLS
     go_wp2_with fail
     go_meet
     exact HX2
    ·have hn1:(0:Int)<(n:Int):=by omega
     have dn:decide ((0:Int)<(n:Int))=true:=by rw [decide_eq_true_iff];exact hn1
     obtain⟨_,bl,ol,hal,hbl,_,_⟩:=LsAt.get (j:=0) HM.out.lo HVL.out (by rw [HN.out];omega)
     subst hal
     have HBL:Hid (bl<g/\gc<bl):=Lib.hid ⟨by rw [HX2.out.eg];exact hbl,by
      have:=(HX2.out.mkr.lo.lt bl (by rw [HVL.out];rfl)).1
      have:=HMB.out;omega⟩
     clear hbl
     have HRW:Hid (∀ W,w2.grownBy W (some gc)->W.cell? ⟨gm,0,none⟩=some (.pointer (some ⟨gc,0,none⟩))/\W.cell? ⟨gm,3,none⟩=some (.slice (some ⟨bl,ol,none⟩) n cl) /\ ∀ j x,M.ls[j]?=some x->W.cell? ⟨bl,ol+j,none⟩=some (.string (st x))):=Lib.hid (fun W hW=>⟨hW.cell c0 (by simp;have:=HMB.out;omega),hW.cell c3 (by simp;have:=HMB.out;omega),fun j x hj=>by
      obtain⟨b',o',e1,_,hc⟩:=HLS.out j x hj
      injection e1 with e1
      injection e1 with e1 e2
      subst e1 e2
      exact hW.cell hc (by simp;have:=HBL.out;omega)⟩)
     go_upto_region 12 with fail
     refine wp_region_held_drew (S:=(fun w'=>w'.cell? ⟨gm,0,none⟩=some (.pointer (some ⟨gc,0,none⟩))/\w'.cell? ⟨gm,3,none⟩=some (.slice (some ⟨bl,ol,none⟩) n cl) /\ ∀ j x,M.ls[j]?=some x->w'.cell? ⟨bl,ol+j,none⟩=some (.string (st x)))) (by kernel_rfl) (HRW.out _ (grownBy_drewN w2 1 _)) (fun hHeld=>?_)
     refine tkH 0 35 ?_
     refine tkH 1 36 ?_
     refine tkH 2 37 ?_
     refine tkH 3 38 ?_
     refine tkH 4 39 ?_
     refine tkH 5 40 ?_
     refine tkH 6 41 ?_
     refine tkH 7 42 ?_
     refine tkH 8 43 ?_
     refine tkH 9 44 ?_
     refine rdH 10 fun K hK=>?_
     go_simp
     refine(Next_any gc n (by omega) _ HX2.out.mkr.cod.drew).mono ?_
     rintro e wy ⟨y,rfl,y0,y1,hcod,hg0⟩
     obtain⟨y,rfl⟩:=Int.eq_ofNat_of_zero_le y0
     have y2:y<n:=by omega
     have hg:=grownBy_trans (grownBy_drewN w2 1 (some gc)) hg0
     clear hg0
     have HX3:=Lib.hid (HX2.out.grown HL.out hg hcod)
     refine goH hK (HRW.out _ hg) fun hHeld=>?_
     clear hK K
     have hy3:(y:Int)<(n:Int):=by omega
     obtain⟨nm,hnm⟩ : ∃ nm,M.ls[y]?=some nm:=⟨_,List.getElem?_eq_getElem (by rw [HN.out];exact y2)⟩
     have HNM:Hid (okN nm):=Lib.hid (HX3.out.mkr.lok nm (List.mem_of_getElem? hnm))
     clear hg hcod y1
     refine tkH 11 46 ?_
     refine wpAnyH_takeD (i:=12) (d:=some 47) (v:=.string (st nm)) rfl (by kernel_rfl) (by kernel_rfl) (by kernel_rfl) (by kernel_rfl) (fun _ _ _ h=>h) (Or.inl ⟨by kernel_rfl,?_⟩) (by assumption) ?_
     ·(intro w hSw;have hcx:=hSw.2.2 y nm hnm;go_simp;try with_reducible rfl)
     (try simp only [Act.put,List.setIfInBounds_toArray,List.set_cons_zero,List.set_cons_succ])
     refine tkH 13 48 ?_
     obtain⟨jl,f0,f1,f2,f3,f4,f5,r0,r1,r2,r3,r4,r5⟩:=HX3.out.cells
     refine rdH 14 fun K hK=>?_
     go_simp
     refine goH hK ⟨cell_set6 (by have:=HMB.out;omega) hHeld.1,cell_set6 (by have:=HMB.out;omega) hHeld.2.1,fun j x hj=>cell_set6 (by have:=HBL.out;omega) (hHeld.2.2 j x hj)⟩ fun hHeld=>?_
     clear hK K
     refine wpAnyH_done (by kernel_rfl) ?_ _
     go_wp2_with fail
     obtain⟨q0,q1,q2,q3,q4,q5,HF⟩:=HX3.out.fin HL.out (hd:=⟨13,0,0,0,nm⟩) (ar:=.nil) (sl:=.slice none 0 0) (d:=d) (ArgsAt.nil _ _) (goodE.leaf (ok_name HNM.out) rfl rfl (.inr (.inl rfl)) d) _ rfl
     refine bodyPost_ret (v:=exv ⟨13,0,0,0,nm⟩ (.slice none 0 0)) (by simp [results,Tryd.results60,go_sem,q0,q1,q2,q3,q4,q5]) rfl ?_
     exact HF.out
  have d2:(x==2)=false:=by rw [beq_eq_false_iff_ne];omega
  have d3:(x==3)=false:=by rw [beq_eq_false_iff_ne];omega
  clear e0 e1 e2
  go_wp2_with fail
  go_meet
  exact HX2
 case rest =>
  have HX:=hcut
  clear HX2 hcut
  go_wp2_with fail
  refine(Next_any gc 5 (by omega) _ HX.out.mkr.cod).mono ?_
  rintro e w3 ⟨y,rfl,y0,y1,hcod,hg⟩
  have HX3:=Lib.hid (HX.out.grown HL.out hg hcod)
  clear hg hcod HX
  go_wp2_with fail
  refine(Next_any gc 12 (by omega) _ HX3.out.mkr.cod).mono ?_
  rintro e w4 ⟨z,rfl,z0,z1,hcod,hg⟩
  have HX4:=Lib.hid (HX3.out.grown HL.out hg hcod)
  have y2:y<5:=by omega
  clear hg hcod HX3 y1
  by_cases ez:z=11
  ·subst ez
   clear z0 z1
   go_wp2_with fail
   have hb5:=below_alloc w4 (.cells #[.int .i64 9223372036854775807,.int .i64 2147483648,.int .i64 1000,.int .i64 64] 3)
   have hblk:=heap_alloc_new w4 (.cells #[.int .i64 9223372036854775807,.int .i64 2147483648,.int .i64 1000,.int .i64 64] 3)
   have HX5:=Lib.hid (HX4.out.below hb5)
   have HNE:Hid (gc<w4.heap.size):=Lib.hid (by have:=HX4.out.lts;have:=HL.out;omega)
   obtain⟨w5,hw5⟩ : ∃ w5,w4.alloc (.cells #[.int .i64 9223372036854775807,.int .i64 2147483648,.int .i64 1000,.int .i64 64] 3)=w5:=⟨_,rfl⟩
   obtain⟨g5,hg5⟩ : ∃ g5,w4.heap.size=g5:=⟨_,rfl⟩
   rw [hw5] at HX5 hblk ⊢
   rw [hg5] at hblk HNE ⊢
   clear hb5 hw5 hg5 HX4
   clear w4
   refine(Next_any gc 4 (by omega) _ HX5.out.mkr.cod).mono ?_
   rintro e w6 ⟨z,rfl,z0,z1,hcod,hg⟩
   have HX6:=Lib.hid (HX5.out.grown HL.out hg hcod)
   have hb6:=(hg.block g5 (heap_lt hblk) (fun e=>by injection e with e;have:=HNE.out;omega)).trans hblk
   clear hcod hg hblk HX5
   clear w5
   have z2:z<4:=by omega
   obtain⟨z,rfl⟩:=Int.eq_ofNat_of_zero_le z0
   obtain⟨u,hu,hu0,hu1⟩ : ∃ u:Int,w6.cell? ⟨g5,z,none⟩=some (.int .i64 u)/\0<=u/\u<=9223372036854775807:=by
    rw [cell_of_row w6 g5 z _ _ _ hb6]
    have:z=0\/z=1\/z=2\/z=3:=by omega
    rcases this with rfl | rfl | rfl | rfl <;> exact⟨_,rfl,by omega,by omega⟩
   clear hb6 z1
   obtain⟨jl,f0,f1,f2,f3,f4,f5,c0,c1,c2,c3,c4,c5⟩:=HX6.out.cells
   go_wp2_with fail
   obtain⟨q0,q1,q2,q3,q4,q5,HF⟩:=HX6.out.fin HL.out (hd:=⟨1,0,u,0,[]⟩) (ar:=.nil) (sl:=.slice none 0 0) (d:=d) (ArgsAt.nil _ _) (goodE.leaf (ok_num hu0 hu1) rfl rfl (.inl rfl) d) _ rfl
   refine bodyPost_ret (v:=exv ⟨1,0,u,0,[]⟩ (.slice none 0 0)) (by simp [results,Tryd.results60,go_sem,q0,q1,q2,q3,q4,q5]) rfl ?_
   exact HF.out
  ·have dz:(z==11)=false:=by rw [beq_eq_false_iff_ne];exact ez
   obtain⟨jl,f0,f1,f2,f3,f4,f5,c0,c1,c2,c3,c4,c5⟩:=HX4.out.cells
   go_wp2_with fail
   obtain⟨q0,q1,q2,q3,q4,q5,HF⟩:=HX4.out.fin HL.out (hd:=⟨1,0,y,0,[]⟩) (ar:=.nil) (sl:=.slice none 0 0) (d:=d) (ArgsAt.nil _ _) (goodE.leaf (ok_num y0 (by omega)) rfl rfl (.inl rfl) d) _ rfl
   refine bodyPost_ret (v:=exv ⟨1,0,y,0,[]⟩ (.slice none 0 0)) (by simp [results,Tryd.results60,go_sem,q0,q1,q2,q3,q4,q5]) rfl ?_
   exact HF.out
end Go.Proofs.YtpcdinelpfbpfaaDoor
namespace Go.Proofs.YtpcdinelpfbpfaaDoor
open Go.ChangeShapes Go.WideShapes Go.ChangeAt Go.RowKit
set_option linter.unusedVariables false
set_option linter.unusedSimpArgs false

def FrsAt (w:World) (b:Nat) (fs:List Fr):Prop := ∀ j f,fs[j]?=some f->w.cell? ⟨b,j * 4,none⟩=some (.string (st f.nm))/\w.cell? ⟨b,j * 4+1,none⟩=some (.int .i64 0)/\w.cell? ⟨b,j * 4+2,none⟩=some (.slice f.pa f.pn f.pc)/\w.cell? ⟨b,j * 4+3,none⟩=some (.slice f.ba f.bn f.bc)
theorem FrsAt.of_own {w:World} {base:Nat} {e:TypeId} {v:Value} {fs:List Fr} (h:w.ownsRow base e 4 v fs.length (frc fs)) (hn:0<fs.length) :
  ∃ b cap,v=.slice (some ⟨b,0,none⟩) fs.length cap/\fs.length<=cap/\cap<=maxLen/\base<=b/\b<w.heap.size/\FrsAt w b fs:=by
 have hne:frc fs≠[]:=fun e=>by have:=frc_len fs;rw [e] at this;simp at this;omega
 obtain⟨g,cap,rfl,hb,hl,h1,h2,_,hc⟩:=own_block h hne
 refine⟨g,cap,rfl,h1,h2,hb,hl,fun j f hj=>?_⟩
 obtain⟨g1,g2,g3,g4⟩:=frc_get fs j f hj
 exact⟨hc _ _ g1,hc _ _ g2,hc _ _ g3,hc _ _ g4⟩
theorem FrsAt.kept {w w':World} {b:Nat} {fs:List Fr} (h:FrsAt w b fs) (hb:w'.heap[b]?=w.heap[b]?):FrsAt w' b fs:=fun j f hj=>by
 obtain⟨h1,h2,h3,h4⟩:=h j f hj
 exact⟨(World.cell?_of_block (a:=⟨b,j * 4,none⟩) hb).trans h1,(World.cell?_of_block (a:=⟨b,j * 4+1,none⟩) hb).trans h2,(World.cell?_of_block (a:=⟨b,j * 4+2,none⟩) hb).trans h3,(World.cell?_of_block (a:=⟨b,j * 4+3,none⟩) hb).trans h4⟩
theorem cod_set1 {w:World} {gc:Nat} {p:Addr} {v:Value} (h:Cod w gc) (hp:gc<p.block):Cod (w.setCell p v) gc:=h.setCell hp v
theorem okH.nm13 {h:Hd} {ar:Fo} (k:okH h ar) (e:h.k=13):okN h.nm:=by
 rcases k with⟨_,_,k⟩ | ⟨_,k,_⟩ | ⟨_,_,k⟩
 ·rcases k with⟨_,k,_⟩ | ⟨k,_⟩ | ⟨k,_⟩ | ⟨k,_⟩ | ⟨k,_⟩ | ⟨k,_⟩ | ⟨k,_⟩
  ·exact k
  all_goals omega
 ·omega
 ·omega
def CallPost (gc gm d:Nat) (w:World) (e:Ending) (w':World):Prop:=ExPost gc gm d w e w' /\ ∃ h sl,e=.returned (exv h sl)/\(h.k=9\/h.k=10)
abbrev frow (f:Fr):Obj:=.cells #[.string (st f.nm),.int .i64 0,.slice f.pa f.pn f.pc,(.slice f.ba f.bn f.bc)] 66 (0,0)
set_option maxRecDepth 100000 in
set_option maxHeartbeats 8000000 in
theorem call_any (gc gm d:Nat) (M:Mk) (hd63:d<=1000) (HE : ∀ W,MkAt W gc gm M->Calls Tryd.prog 46 #[.pointer (some ⟨gm,0,none⟩),.int .i64 (d:Int)] W (ExPost gc gm d W)) (w:World) (h:MkAt w gc gm M):Calls Tryd.prog 49 #[.pointer (some ⟨gm,0,none⟩),.int .i64 ((d:Int)+1)] w (CallPost gc gm (d+1) w):=by
 have hx:=ExW.start h
 have HEX:=Lib.hid HE
 clear HE
 have HL:Hid (gc<w.heap.size):=Lib.hid (by have:=h.lt2;omega)
 have HM:=Lib.hid h
 go_enter Tryd.func49,Tryd.ntmps49
 go_upto_region 1 with fail
 obtain⟨w1,hw1⟩ : ∃ w1,w.alloc zex=w1:=⟨_,rfl⟩
 rw [hw1] at hx ⊢
 obtain⟨g,hg⟩ : ∃ g,w.heap.size=g:=⟨_,rfl⟩
 rw [hg] at hx HL ⊢
 have HX:=Lib.hid hx
 have HGM:Hid (gm<g):=Lib.hid (by rw [<- hg];exact heap_lt h.row)
 clear hw1 hx h hg
 go_cut [5] from 11 to 28 (fun v5 wx => ∃ (g5:Nat) (f:Fr),v5=.pointer (some ⟨g5,0,none⟩)/\Hid (f∈M.fs)/\Hid (ExW w gc gm M g wx/\wx.heap[g5]?=some (frow f)/\g<g5))
 case first =>
  have hrow:=HX.out.mkr.row
  have hfn1:=HX.out.mkr.fn1
  obtain⟨bf,cf,hvb,hfc1,hfc2,hbf1,hbf2,hfr⟩:=FrsAt.of_own HX.out.mkr.fn hfn1
  rw [hvb] at hrow
  have HBF:Hid (gc<bf/\bf<g):=Lib.hid ⟨by have:=HX.out.mkr.lt;omega,by
   have:=(HM.out.fn.lt bf (by rw [hvb];rfl)).2
   have:=HX.out.eg;omega⟩
  have c0:=cell_of_row _ _ 0 _ _ _ hrow
  have c2:=cell_of_row _ _ 2 _ _ _ hrow
  have HMB:Hid (gc<gm):=Lib.hid HX.out.mkr.lt
  have hn4:=HX.out.mkr.fn2
  obtain⟨n,hn⟩ : ∃ n,M.fs.length=n:=⟨_,rfl⟩
  rw [hn] at c0 c2 hfc1 hn4 hfn1
  have HN:=Lib.hid hn
  have HFR:=Lib.hid hfr
  clear hn hrow hvb hfr hbf1 hbf2
  have HRW:Hid (∀ W,w1.grownBy W (some gc)->W.cell? ⟨gm,0,none⟩=some (.pointer (some ⟨gc,0,none⟩))/\W.cell? ⟨gm,2,none⟩=some (.slice (some ⟨bf,0,none⟩) n cf)/\FrsAt W bf M.fs):=Lib.hid (fun W hW=>⟨hW.cell c0 (by simp;have:=HMB.out;omega),hW.cell c2 (by simp;have:=HMB.out;omega),HFR.out.kept (hW.block bf (by have:=HBF.out;have:=HX.out.lts;omega) (by simp;have:=HBF.out;omega))⟩)
  refine wp_region_held_drew (S:=(fun w'=>w'.cell? ⟨gm,0,none⟩=some (.pointer (some ⟨gc,0,none⟩))/\w'.cell? ⟨gm,2,none⟩=some (.slice (some ⟨bf,0,none⟩) n cf)/\FrsAt w' bf M.fs)) (by kernel_rfl) (HRW.out _ (grownBy_drewN w1 1 _)) (fun hHeld=>?_)
  refine tkH 0 11 ?_
  refine tkH 1 12 ?_
  refine tkH 2 13 ?_
  refine tkH 3 14 ?_
  refine tkH 4 15 ?_
  refine tkH 5 16 ?_
  refine tkH 6 17 ?_
  refine tkH 7 18 ?_
  refine tkH 8 19 ?_
  refine tkH 9 20 ?_
  refine tkH 10 21 ?_
  refine tkH 11 22 ?_
  refine tkH 12 23 ?_
  refine tkH 13 24 ?_
  refine tkH 14 25 ?_
  refine wpAnyH_ready (rs:=[15,18]) (by kernel_rfl) (by simp) ?_
  refine AllReadyH.cons rfl (fun K hK=>?_) (AllReadyH.cons rfl (fun K hK=>?_) AllReadyH.nil)
  ·go_simp
   refine(Next_any gc n (by omega) _ HX.out.mkr.cod.drew).mono ?_
   rintro e wy ⟨y,rfl,y0,y1,hcod,hg0⟩
   obtain⟨y,rfl⟩:=Int.eq_ofNat_of_zero_le y0
   have y2:y<n:=by omega
   have hy3:(y:Int)<(n:Int):=by omega
   obtain⟨f,hf⟩ : ∃ f,M.fs[y]?=some f:=⟨_,List.getElem?_eq_getElem (by rw [HN.out];exact y2)⟩
   have HF:Hid (f∈M.fs):=Lib.hid (List.mem_of_getElem? hf)
   have hg:=grownBy_trans (grownBy_drewN w1 1 (some gc)) hg0
   clear hg0
   have HX3:=Lib.hid (HX.out.grown HL.out hg hcod)
   refine goH hK (HRW.out _ hg) fun hHeld=>?_
   clear hK K y1 hcod
   refine tkH 16 27 ?_
   refine wpAnyH_takeD (i:=17) (d:=some 28) (v:=.agg #[.string (st f.nm),.int .i64 0,.slice f.pa f.pn f.pc,(.slice f.ba f.bn f.bc)]) rfl (by kernel_rfl) (by kernel_rfl) (by kernel_rfl) (by kernel_rfl) (fun _ _ _ h=>h) (Or.inl ⟨by kernel_rfl,?_⟩) (by assumption) ?_
   ·(intro w hSw;obtain⟨p0,p1,p2,p3⟩:=hSw.2.2 y f hf;go_simp;try with_reducible rfl)
   (try simp only [Act.put,List.setIfInBounds_toArray,List.set_cons_zero,List.set_cons_succ])
   refine rdH 18 fun K hK=>?_
   go_simp
   have hg2:=grownBy_trans hg (grownBy_of_below (below_alloc wy (.cells #[.string { data := #[] },.int .i64 0,.slice none 0 0,.slice none 0 0] 66)) (some gc))
   refine goH hK (HRW.out _ hg2) fun hHeld=>?_
   clear hK K
   have hb5:=heap_alloc_new wy (.cells #[.string { data := #[] },.int .i64 0,.slice none 0 0,.slice none 0 0] 66)
   have HX4:=Lib.hid (HX3.out.below (below_alloc wy (.cells #[.string { data := #[] },.int .i64 0,.slice none 0 0,.slice none 0 0] 66)))
   have HG5:Hid (g<wy.heap.size):=Lib.hid HX3.out.lts
   obtain⟨w5,hw5⟩ : ∃ w5,wy.alloc (.cells #[.string { data := #[] },.int .i64 0,.slice none 0 0,.slice none 0 0] 66)=w5:=⟨_,rfl⟩
   obtain⟨g5,hg5⟩ : ∃ g5,wy.heap.size=g5:=⟨_,rfl⟩
   rw [hw5] at hb5 HX4 hg2 hHeld ⊢
   rw [hg5] at hb5 HG5 ⊢
   clear hw5 hg5 hg HX3
   obtain⟨p0,p1,p2,p3⟩:=cells4 hb5
   obtain⟨jl,s0,s1,s2,s3⟩:=froz4 hb5
   refine rdH 19 fun K hK=>?_
   go_simp
   refine goH hK ⟨cell_set4 (b:=g5) (b':=gm) (by have:=HG5.out;have:=HGM.out;omega) hHeld.1,cell_set4 (b:=g5) (b':=gm) (by have:=HG5.out;have:=HGM.out;omega) hHeld.2.1,hHeld.2.2.kept (other_set4 bf (by have:=HG5.out;have:=HBF.out;omega))⟩ fun hHeld=>?_
   clear hK K
   refine wpAnyH_done (by kernel_rfl) ?_ _
   go_wp2_with fail
   go_meet
   exact⟨g5,f,rfl,HF,Lib.hid ⟨HX4.out.set4 HL.out HGM.out HG5.out HM.out,heap_set4 hb5,HG5.out⟩⟩
  ·go_simp
   have hb5:=heap_alloc_new w1 (.cells #[.string { data := #[] },.int .i64 0,.slice none 0 0,.slice none 0 0] 66)
   have hg1:=grownBy_trans (grownBy_of_below (below_alloc w1 (.cells #[.string { data := #[] },.int .i64 0,.slice none 0 0,.slice none 0 0] 66)) (some gc)) (grownBy_drewN (w1.alloc (.cells #[.string { data := #[] },.int .i64 0,.slice none 0 0,.slice none 0 0] 66)) 1 (some gc))
   refine goH hK (HRW.out _ hg1) fun hHeld=>?_
   clear hK K
   have HX3:=Lib.hid (HX.out.grown HL.out hg1 ((HX.out.mkr.cod.alloc (.cells #[.string { data := #[] },.int .i64 0,.slice none 0 0,.slice none 0 0] 66)).drew))
   have HG5:Hid (g<w1.heap.size):=Lib.hid HX.out.lts
   obtain⟨w5,hw5⟩ : ∃ w5,(w1.alloc (.cells #[.string { data := #[] },.int .i64 0,.slice none 0 0,.slice none 0 0] 66)).drew=w5:=⟨_,rfl⟩
   obtain⟨g5,hg5⟩ : ∃ g5,w1.heap.size=g5:=⟨_,rfl⟩
   have hb6:w5.heap[g5]?=some (.cells #[.string { data := #[] },.int .i64 0,.slice none 0 0,.slice none 0 0] 66 (0,0)):=by rw [<- hw5,<- hg5];exact hb5
   clear hb5
   have hb5:=hb6
   clear hb6
   rw [show (w1.alloc (.cells #[.string { data := #[] },.int .i64 0,.slice none 0 0,.slice none 0 0] 66)).drewN 1=w5 from hw5] at HX3 hg1
   rw [hw5] at hHeld ⊢
   rw [hg5] at HG5
   (try rw [hg5])
   clear hw5 hg5
   refine rdH 15 fun K hK=>?_
   go_simp
   refine(Next_any gc n (by omega) _ HX3.out.mkr.cod).mono ?_
   rintro e wy ⟨y,rfl,y0,y1,hcod,hg0⟩
   obtain⟨y,rfl⟩:=Int.eq_ofNat_of_zero_le y0
   have y2:y<n:=by omega
   have hy3:(y:Int)<(n:Int):=by omega
   obtain⟨f,hf⟩ : ∃ f,M.fs[y]?=some f:=⟨_,List.getElem?_eq_getElem (by rw [HN.out];exact y2)⟩
   have HF:Hid (f∈M.fs):=Lib.hid (List.mem_of_getElem? hf)
   have hg:=grownBy_trans hg1 hg0
   have hb6:=(hg0.block g5 (heap_lt hb5) (by simp;have:=HG5.out;have:=HL.out;omega)).trans hb5
   have HX4:=Lib.hid (HX3.out.grown HL.out hg0 hcod)
   refine goH hK (HRW.out _ hg) fun hHeld=>?_
   clear hK K y1 hcod hg0 hb5
   have hb5:=hb6
   clear hb6
   refine tkH 16 27 ?_
   refine wpAnyH_takeD (i:=17) (d:=some 28) (v:=.agg #[.string (st f.nm),.int .i64 0,.slice f.pa f.pn f.pc,(.slice f.ba f.bn f.bc)]) rfl (by kernel_rfl) (by kernel_rfl) (by kernel_rfl) (by kernel_rfl) (fun _ _ _ h=>h) (Or.inl ⟨by kernel_rfl,?_⟩) (by assumption) ?_
   ·(intro w hSw;obtain⟨p0,p1,p2,p3⟩:=hSw.2.2 y f hf;go_simp;try with_reducible rfl)
   (try simp only [Act.put,List.setIfInBounds_toArray,List.set_cons_zero,List.set_cons_succ])
   obtain⟨p0,p1,p2,p3⟩:=cells4 hb5
   obtain⟨jl,s0,s1,s2,s3⟩:=froz4 hb5
   refine rdH 19 fun K hK=>?_
   go_simp
   refine goH hK ⟨cell_set4 (b:=g5) (b':=gm) (by have:=HG5.out;have:=HGM.out;omega) hHeld.1,cell_set4 (b:=g5) (b':=gm) (by have:=HG5.out;have:=HGM.out;omega) hHeld.2.1,hHeld.2.2.kept (other_set4 bf (by have:=HG5.out;have:=HBF.out;omega))⟩ fun hHeld=>?_
   clear hK K
   refine wpAnyH_done (by kernel_rfl) ?_ _
   go_wp2_with fail
   go_meet
   exact⟨g5,f,rfl,HF,Lib.hid ⟨HX4.out.set4 HL.out HGM.out HG5.out HM.out,heap_set4 hb5,HG5.out⟩⟩
 case rest =>
  obtain⟨g5,f,rfl,HF,HY⟩:=hcut
  clear HX
  have hpn:=(HM.out.fok f HF.out).2
  have HKP:Hid (∀ wx wy:World,ExW w gc gm M g wx/\wx.heap[g5]?=some (frow f)/\g<g5->wx.grownBy wy (some gc)->Cod wy gc->ExW w gc gm M g wy/\wy.heap[g5]?=some (frow f)/\g<g5):=Lib.hid (fun wx wy h hg hc=>⟨h.1.grown HL.out hg hc,(hg.block g5 (heap_lt h.2.1) (by simp;have:=HL.out;omega)).trans h.2.1,h.2.2⟩)
  have HC0:Hid (∀ wx:World,ExW w gc gm M g wx->wx.cell? ⟨gm,0,none⟩=some (.pointer (some ⟨gc,0,none⟩))):=Lib.hid (fun wx h=>cell_of_row _ _ 0 _ _ _ h.mkr.row)
  obtain⟨p0,p1,p2,p3⟩:=cells4 HY.out.2.1
  have c0:=HC0.out _ HY.out.1
  go_wp2_with fail
  refine(Next_any gc 3 (by omega) _ HY.out.1.mkr.cod).mono ?_
  rintro e w2 ⟨x,rfl,x0,x1,hcod,hg⟩
  have HY2:=Lib.hid (HKP.out _ _ HY.out hg hcod)
  clear p0 p1 p2 p3 c0 hcod hg HY x0 x1
  clear wc
  go_upto_region 4 with fail
  obtain⟨bv,hbv⟩ : ∃ b,(x==2)=b:=⟨_,rfl⟩
  rw [hbv]
  clear hbv
  go_cut [46] from 38 to 46 (fun v46 wx => ∃ b46,v46=.bool b46/\Hid (ExW w gc gm M g wx/\wx.heap[g5]?=some (frow f)/\g<g5))
  case first =>
   cases bv
   ·go_wp2_with fail
    go_meet
    exact⟨false,rfl,HY2⟩
   ·have c0:=HC0.out _ HY2.out.1
    go_wp2_with fail
    refine(Next_any gc 8 (by omega) _ HY2.out.1.mkr.cod).mono ?_
    rintro e w3 ⟨y,rfl,y0,y1,hcod,hg⟩
    have HY3:=Lib.hid (HKP.out _ _ HY2.out hg hcod)
    clear hcod hg c0
    obtain⟨b7,hb7⟩ : ∃ b,(y==7)=b:=⟨_,rfl⟩
    go_wp2_with fail
    go_meet
    exact⟨b7,by rw [<- hb7],HY3⟩
  case rest =>
  clear HY2
  clear w2
  obtain⟨b46,rfl,HY2⟩:=hcut
  go_upto_if 46 with fail
  go_cut [6] from 47 to 51 (fun v6 wx => ∃ n:Nat,v6=.int .i64 n/\n<=2/\Hid (ExW w gc gm M g wx/\wx.heap[g5]?=some (frow f)/\g<g5))
  case first =>
   cases b46
   ·go_wp2_with fail
    go_meet
    exact⟨f.pn,rfl,hpn,HY2⟩
   ·have c0:=HC0.out _ HY2.out.1
    go_wp2_with fail
    refine(Next_any gc 3 (by omega) _ HY2.out.1.mkr.cod).mono ?_
    rintro e w4 ⟨z,rfl,z0,z1,hcod,hg⟩
    have HY4:=Lib.hid (HKP.out _ _ HY2.out hg hcod)
    clear hcod hg c0
    obtain⟨z,rfl⟩:=Int.eq_ofNat_of_zero_le z0
    go_wp2_with fail
    go_meet
    exact⟨z,rfl,by omega,HY4⟩
  case rest =>
   clear HY2
   obtain⟨n,rfl,hn2,HY⟩:=hcut
   obtain⟨i0,hi0,hz0,hz1,hz2⟩:=info_parts Tryd.infoExpr
   have HI:=Lib.hid hi0
   have HZ0:=Lib.hid hz0
   have HZ1:=Lib.hid hz1
   have HZ2:=Lib.hid hz2
   clear hi0 hz0 hz1 hz2
   go_upto_block 0 with fail
   go_wp2_with fail
   go_loopw [8,9] (fun v8 v9 wr => ∃ (i:Nat) (F:Fo) (xs:List Value),v9=.int .i64 i/\i<=n/\Hid (F.len=i/\goodF d F/\(ExW w gc gm M g wr/\wr.heap[g5]?=some (frow f)/\g<g5)/\wr.ownsRow (g5+1) 40 6 v8 i xs/\FoAt wr (fun b=>g5<b/\some b≠v8.ownBlock) F xs)) (fun _ v9 _=>n - (intOf v9).toNat)
   case atStart=>exact⟨0,.nil,[],rfl,by omega,Lib.hid ⟨rfl,goodF.nil d,HY.out,World.ownsRow_nil _ _ _ _,rfl⟩⟩
   case round =>
    clear HY
    obtain⟨i,F,xs,rfl,hi,HR⟩:=hrel
    by_cases hlt:i<n
    ·go_wp2_with fail
     refine(HEX.out _ HR.out.2.2.1.1.mkr).mono ?_
     rintro e w2 ⟨h,ar,sl,rfl,ha,hE,hcod,hg⟩
     have HA:=Lib.hid ha
     have HE:=Lib.hid hE
     have HW2:=Lib.hid (HKP.out _ _ HR.out.2.2.1 hg hcod)
     have HG:=Lib.hid hg
     obtain⟨aa,ca,rws,hsl,_⟩:=ha
     clear hE hcod hg
     rw [hsl] at HA ⊢
     clear hsl
     have HOA:=Lib.hid ((own_grown HR.out.2.2.2.1 HG.out (by have:=HL.out;have:=HR.out.2.2.1.2.2;omega)).alloc (.cells #[.int .i64 h.k,.int .i64 h.op,.int .i64 h.v,.int .i64 h.ln,.string (st h.nm),.slice aa ar.len ca] 40))
     have HWA:=Lib.hid (HW2.out.1.below (below_alloc w2 (.cells #[.int .i64 h.k,.int .i64 h.op,.int .i64 h.v,.int .i64 h.ln,.string (st h.nm),.slice aa ar.len ca] 40)))
     have hsb:g5+1<=w2.heap.size+1:=by have:=heap_lt HW2.out.2.1;omega
     go_wp2_with (at_builtin;refine wpList_append_lies _ rfl _ _ _ rfl (g5+1) 40 i0 _ 6 72 Tryd.underlying38 HI.out HZ0.out HZ1.out HZ2.out rfl (by omega) _ _ _ rfl HOA.out ⟨w2.heap.size,0,none⟩ 1 1 (hdc h (.slice aa ar.len ca)) rfl rfl (World.news_of_block (cs:=(hdc h (.slice aa ar.len ca)).toArray) (t:=40) (fr:=(0,0)) (heap_alloc_new w2 _)) (by simp [Value.oneCell']) (by omega) (by unfold maxLen;omega) (by omega) (by simp;omega) _ rfl ?_;intro g9 c9 w9 hown9 hgrow9 hor9 hlt9;have HO9:=Lib.hid hown9;have HG9:=Lib.hid hgrow9;have HR9:=Lib.hid hor9;clear hown9 hgrow9 hor9 hlt9)
     go_roundw
     case rel =>
      refine⟨i+1,F.app (one1 h ar),xs++hdc h (.slice aa ar.len ca),by go_num,by omega,Lib.hid ⟨by rw [Fo.len_app,HR.out.1];rfl,goodF.snoc HR.out.2.1 HE.out,?_,HO9.out,?_⟩⟩
      ·have hg59:w9.heap[g5]?=some (frow f):=by
        rw [HG9.out.block g5 (by have:=heap_lt HW2.out.2.1;simp;omega) (fun e=>by have:=(HR.out.2.2.2.1.lt g5 e.symm).1;omega),Below.heap_alloc w2 _ g5 (heap_lt HW2.out.2.1)]
        exact HW2.out.2.1
       refine⟨?_,hg59,HW2.out.2.2⟩
       exact HWA.out.own HG9.out (fun k hk=>by have:=(HR.out.2.2.2.1.lt k hk).1;have:=HW2.out.2.2;omega) HM.out HL.out
      ·exact fo_push HR.out.2.2.2.2 HR.out.2.2.2.1 HG.out (by have:=HL.out;have:=HW2.out.2.2;omega) (heap_lt HR.out.2.2.1.2.1) HA.out HG9.out HR9.out
     case measure=>simp [intOf];omega
    ·obtain rfl:i=n:=by omega
     have hlen:=HR.out.1
     obtain⟨aF,cF,rF,hvF,hF1,hF2,hF3,hF4,hF5⟩:=ArgsAt.of_own (e:=40) (size:=6) (P:=fun b=>g<b) (F:=F) (by rw [HR.out.1];exact HR.out.2.2.2.1) (HR.out.2.2.2.2.keep (fun b hb _=>⟨rfl,by have:=HR.out.2.2.1.2.2;omega⟩) (Nat.le_refl _)) (fun b hb=>by have:=(HR.out.2.2.2.1.lt b hb).1;have:=HR.out.2.2.1.2.2;omega)
     have HAF:Hid (ArgsAt wr (fun b=>g<b) F u8):=Lib.hid ⟨aF,cF,rF,hvF,hF1,hF2,hF3,hF4,hF5⟩
     clear hF1 hF3 hF4 hF5
     subst hvF
     have HOK:=Lib.hid (HM.out.fok f HF.out).1
     have hiL:i=F.len:=hlen.symm
     clear hlen
     subst hiL
     cases bv
     ·obtain⟨p0,p1,p2,p3⟩:=cells4 HR.out.2.2.1.2.1
      obtain⟨jl,f0,f1,f2,f3,f4,f5,r0,r1,r2,r3,r4,r5⟩:=HR.out.2.2.1.1.cells
      go_wp2_with fail
      obtain⟨q0,q1,q2,q3,q4,q5,HFN⟩:=HR.out.2.2.1.1.fin HL.out (hd:=⟨9,0,0,0,f.nm⟩) (ar:=F) (sl:=(.slice aF F.len cF)) (d:=d+1) HAF.out (goodE.up (.inl ⟨rfl,rfl,.inr (.inr (.inr (.inr (.inr (.inl ⟨rfl,HOK.out,by omega⟩)))))⟩) rfl HR.out.2.1 (by omega)) _ rfl
      refine bodyPost_ret (v:=exv ⟨9,0,0,0,f.nm⟩ (.slice aF F.len cF)) (by simp [results,Tryd.results49,go_sem,q0,q1,q2,q3,q4,q5]) rfl ?_
      exact⟨HFN.out,_,_,rfl,.inl rfl⟩
     ·obtain⟨p0,p1,p2,p3⟩:=cells4 HR.out.2.2.1.2.1
      have c0:=HC0.out _ HR.out.2.2.1.1
      have hgx : ∀ W,W=wr.alloc (.cells #[.int .i64 11,.int .i64 0,.int .i64 0,.int .i64 0,.string (st f.nm),.slice none 0 0] 40)->Hid (ExW w gc gm M g W/\W.heap[wr.heap.size]?=some (.cells #[.int .i64 11,.int .i64 0,.int .i64 0,.int .i64 0,.string (st f.nm),.slice none 0 0] 40 (0,0))/\W.ownsRow (g5+1) 40 6 (.slice aF F.len cF) F.len xs/\FoAt W (fun b=>g5<b/\b≠wr.heap.size) F xs/\g5<wr.heap.size):=fun W hW=>by
       subst hW
       exact Lib.hid ⟨HR.out.2.2.1.1.below (below_alloc _ _),heap_alloc_new _ _,HR.out.2.2.2.1.alloc _,HR.out.2.2.2.2.keep (fun b hb hlt=>⟨Below.heap_alloc wr _ b hlt,hb.1,by omega⟩) (by simp),heap_lt HR.out.2.2.1.2.1⟩
      go_upto_region 14 with fail
      obtain⟨wA,hwA⟩ : ∃ wA,wr.alloc (.cells #[.int .i64 11,.int .i64 0,.int .i64 0,.int .i64 0,.string (st f.nm),.slice none 0 0] 40)=wA:=⟨_,rfl⟩
      have HA:=hgx wA hwA.symm
      rw [hwA]
      obtain⟨gt,hgt⟩ : ∃ gt,wr.heap.size=gt:=⟨_,rfl⟩
      rw [hgt] at HA ⊢
      have HOB:Hid (∀ k,(Value.slice aF F.len cF).ownBlock=some k->k<gt):=Lib.hid (fun k hk=>by rw [<- hgt];exact(HR.out.2.2.2.1.lt k hk).2)
      clear hgx hwA hgt p0 p1 p2 p3 c0
      have HGF:=Lib.hid HR.out.2.1
      have HG5:Hid (g<g5):=Lib.hid HR.out.2.2.1.2.2
      clear HR HAF
      clear wr
      have c0:=HC0.out _ HA.out.1
      go_wp2_with fail
      refine(Next_any gc 4 (by omega) _ HA.out.1.mkr.cod).mono ?_
      rintro e wB ⟨x,rfl,x0,x1,hcod,hg⟩
      have HB:Hid (ExW w gc gm M g wB/\wB.heap[gt]?=some (.cells #[.int .i64 11,.int .i64 0,.int .i64 0,.int .i64 0,.string (st f.nm),.slice none 0 0] 40 (0,0))/\wB.ownsRow (g5+1) 40 6 (.slice aF F.len cF) F.len xs/\FoAt wB (fun b=>g5<b/\b≠gt) F xs/\g5<gt):=Lib.hid ⟨HA.out.1.grown HL.out hg hcod,(hg.block gt (heap_lt HA.out.2.1) (by simp;have:=HL.out;have:=HA.out.2.2.2.2;have:=HG5.out;omega)).trans HA.out.2.1,own_grown HA.out.2.2.1 hg (by have:=HL.out;have:=HG5.out;omega),HA.out.2.2.2.1.keep (fun b hb hlt=>⟨hg.block b hlt (by simp;have:=HL.out;have:=HG5.out;omega),hb⟩) hg.size,HA.out.2.2.2.2⟩
      clear hcod hg c0 x0 x1 HA
      clear wA
      go_upto_if 78 with fail
      obtain⟨b3,hb3⟩ : ∃ b,(x==3)=b:=⟨_,rfl⟩
      rw [hb3]
      clear hb3
      go_cut [] from 79 to 82 (fun wx => ∃ (hd:Hd) (ar:Fo) (sa:Option Addr) (sc:Nat),Hid (goodE d hd ar/\ArgsAt wx (fun b=>g5<b/\b≠gt) ar (.slice sa ar.len sc)/\ExW w gc gm M g wx/\wx.heap[gt]?=some (.cells #[.int .i64 hd.k,.int .i64 hd.op,.int .i64 hd.v,.int .i64 hd.ln,.string (st hd.nm),.slice sa ar.len sc] 40 (0,0))/\wx.ownsRow (g5+1) 40 6 (.slice aF F.len cF) F.len xs/\FoAt wx (fun b=>g5<b/\b≠gt) F xs))
      case first =>
       cases b3
       ·go_wp2_with fail
        go_meet
        exact⟨⟨11,0,0,0,f.nm⟩,.nil,none,0,Lib.hid ⟨goodE.leaf (.inl ⟨rfl,rfl,.inr (.inr (.inl ⟨rfl,HOK.out,rfl⟩))⟩) rfl rfl (.inr (.inr (.inr rfl))) d,ArgsAt.nil _ _,HB.out.1,HB.out.2.1,HB.out.2.2.1,HB.out.2.2.2.1⟩⟩
       ·go_wp2_with fail
        refine(HEX.out _ HB.out.1.mkr).mono ?_
        rintro e wC ⟨h,ar,sl,rfl,ha,hE,hcod,hg⟩
        have HA:=Lib.hid ha
        have HE:=Lib.hid hE
        obtain⟨aa,ca,rws,hsl,_⟩:=ha
        rw [hsl] at HA ⊢
        have hsz:=hg.size
        have hgtB:=heap_lt HB.out.2.1
        have HC:Hid (ExW w gc gm M g wC/\wC.heap[gt]?=some (.cells #[.int .i64 11,.int .i64 0,.int .i64 0,.int .i64 0,.string (st f.nm),.slice none 0 0] 40 (0,0))/\wC.ownsRow (g5+1) 40 6 (.slice aF F.len cF) F.len xs/\FoAt wC (fun b=>g5<b/\b≠gt) F xs):=Lib.hid ⟨HB.out.1.grown HL.out hg hcod,(hg.block gt hgtB (by simp;have:=HL.out;have:=HB.out.2.2.2.2;have:=HG5.out;omega)).trans HB.out.2.1,own_grown HB.out.2.2.1 hg (by have:=HL.out;have:=HG5.out;omega),HB.out.2.2.2.1.keep (fun b hb hlt=>⟨hg.block b hlt (by simp;have:=HL.out;have:=HG5.out;omega),hb⟩) hg.size⟩
        have HLT:Hid (gt<wB.heap.size/\g<gt/\g5<gt):=Lib.hid ⟨hgtB,by have:=HG5.out;have:=HB.out.2.2.2.2;omega,HB.out.2.2.2.2⟩
        clear hsl hE hcod hg hsz hgtB
        obtain⟨p0,p1,p2,p3,p4,p5⟩:=cells6 HC.out.2.1
        have s0:=frozen_of_row _ gt 0 _ _ HC.out.2.1
        have s1:=frozen_of_row _ gt 1 _ _ HC.out.2.1
        have s2:=frozen_of_row _ gt 2 _ _ HC.out.2.1
        have s3:=frozen_of_row _ gt 3 _ _ HC.out.2.1
        have s4:=frozen_of_row _ gt 4 _ _ HC.out.2.1
        have s5:=frozen_of_row _ gt 5 _ _ HC.out.2.1
        have jl:=heap_lt HC.out.2.1
        go_wp2_with fail
        go_meet
        refine⟨h,ar,aa,ca,Lib.hid ⟨HE.out,HA.out.keep (fun b hb _=>⟨other_set6 b ?_,?_,?_⟩) ?_,HC.out.1.set6 HLT.out.2.1 HM.out,heap_set6 HC.out.2.1,HC.out.2.2.1.kept (grownBy_set6 wC gt _ _ _ _ _ _) ?_,HC.out.2.2.2.keep (fun b hb _=>⟨other_set6 b hb.2,hb⟩) ?_⟩⟩
        ·have:=HLT.out;omega
        ·have:=HLT.out;omega
        ·have:=HLT.out;omega
        ·rw [size_set6];exact Nat.le_refl _
        ·cases hq:(Value.slice aF F.len cF).ownBlock with
         | none=>exact .inl rfl
         | some q=>exact .inr (by simp;have:=HOB.out q hq;omega)
        ·rw [size_set6];exact Nat.le_refl _
      case rest =>
       obtain⟨hd,ar,sa,sc,HC⟩:=hcut
       have HLT:Hid (g<gt/\g5<gt):=Lib.hid ⟨by have:=HG5.out;have:=HB.out.2.2.2.2;omega,HB.out.2.2.2.2⟩
       clear HB
       clear wB
       obtain⟨p0,p1,p2,p3,p4,p5⟩:=cells6 HC.out.2.2.2.1
       obtain⟨jl,f0,f1,f2,f3,f4,f5,r0,r1,r2,r3,r4,r5⟩:=HC.out.2.2.1.cells
       have HAF:Hid (ArgsAt wc (fun b=>g<b) F (.slice aF F.len cF)):=Lib.hid (ArgsAt.of_own (e:=40) (size:=6) HC.out.2.2.2.2.1 (HC.out.2.2.2.2.2.keep (fun b hb _=>⟨rfl,by have:=HG5.out;omega⟩) (Nat.le_refl _)) (fun b hb=>by have:=(HC.out.2.2.2.2.1.lt b hb).1;have:=HG5.out;omega))
       by_cases h13:hd.k=13
       ·have d13:(hd.k==13)=true:=by rw [h13];rfl
        have HNM:=Lib.hid (HC.out.1.1.nm13 h13)
        clear h13
        go_wp2_with fail
        obtain⟨q0,q1,q2,q3,q4,q5,HFN⟩:=HC.out.2.2.1.fin HL.out (hd:=⟨9,0,0,0,hd.nm⟩) (ar:=F) (sl:=(.slice aF F.len cF)) (d:=d+1) HAF.out (goodE.up (.inl ⟨rfl,rfl,.inr (.inr (.inr (.inr (.inr (.inl ⟨rfl,HNM.out,by omega⟩)))))⟩) rfl HGF.out (by omega)) _ rfl
        refine bodyPost_ret (v:=exv ⟨9,0,0,0,hd.nm⟩ (.slice aF F.len cF)) (by simp [results,Tryd.results49,go_sem,q0,q1,q2,q3,q4,q5]) rfl ?_
        exact⟨HFN.out,_,_,rfl,.inl rfl⟩
       ·have d13:(hd.k==13)=false:=by rw [beq_eq_false_iff_ne];exact h13
        have H13:=Lib.hid h13
        clear h13
        have hb1:=below_alloc wc (.cells #[.int .i64 hd.k,.int .i64 hd.op,.int .i64 hd.v,.int .i64 hd.ln,.string (st hd.nm),.slice sa ar.len sc] 40)
        have HOW:=Lib.hid (own_one wc #[.int .i64 hd.k,.int .i64 hd.op,.int .i64 hd.v,.int .i64 hd.ln,.string (st hd.nm),.slice sa ar.len sc] (g5+1) 40 rfl (by have:=heap_lt HC.out.2.2.2.1;have:=HLT.out;omega))
        have HX1:=Lib.hid (HC.out.2.2.1.below hb1)
        have HTR:Hid (FoAt (wc.alloc (.cells #[.int .i64 hd.k,.int .i64 hd.op,.int .i64 hd.v,.int .i64 hd.ln,.string (st hd.nm),.slice sa ar.len sc] 40)) (fun b=>g5<b/\b<wc.heap.size) (.cons hd ar F) (hdc hd (.slice sa ar.len sc)++xs)):=Lib.hid (FoAt.app (G:=F) (ArgsAt.one (HC.out.2.1.keep (fun b hb hlt=>⟨Below.heap_alloc wc _ b hlt,hb.1,hlt⟩) (by simp))) (HC.out.2.2.2.2.2.keep (fun b hb hlt=>⟨Below.heap_alloc wc _ b hlt,hb.1,hlt⟩) (by simp)))
        obtain⟨_,_,e1,hxl,hfc,hcm,hcel,_⟩:=Cells.of_own HC.out.2.2.2.2.1
        injection e1 with e1 e2 e3
        subst e1 e3
        have HXL:=Lib.hid hxl
        have HNI:=Lib.hid (own_nil HC.out.2.2.2.2.1)
        have HCL:=Lib.hid (hcel.below hb1)
        have HOC:=Lib.hid (FoAt.oneCell HC.out.2.2.2.2.2)
        clear hb1 hcel hxl e2
        unfold maxLen at hcm
        have hgl:g5+1<=wc.heap.size+1:=by have:=heap_lt HC.out.2.2.2.1;have:=HLT.out;omega
        go_wp2_with (at_builtin;refine wpList_append_src rfl _ _ _ rfl (g5+1) 40 i0 _ 6 72 Tryd.underlying38 HI.out HZ0.out HZ1.out HZ2.out rfl (by omega) _ _ _ rfl HOW.out _ _ _ xs rfl hfc HNI.out HXL.out HCL.out HOC.out (by unfold maxLen;omega) (by omega) (by simp;omega) ?_;intro v' w9 hown9 hgrow9;obtain⟨a9,c9,rfl,_⟩:=Cells.of_own hown9;have HO9:=Lib.hid hown9;have HG9:=Lib.hid hgrow9;clear hown9 hgrow9;have HX9:=Lib.hid (HX1.out.own HG9.out (fun k hk=>by have:=(HOW.out.lt k hk).1;have:=HG5.out;omega) HM.out HL.out);obtain⟨jl,f0,f1,f2,f3,f4,f5,r0,r1,r2,r3,r4,r5⟩:=HX9.out.cells)
        have e9:1+F.len=(Fo.cons hd ar F).len:=by simp only [Fo.len];omega
        have HA9:Hid (ArgsAt w9 (fun b=>g<b) (.cons hd ar F) (.slice a9 (1+F.len) c9)):=Lib.hid (by
         have h9:=HO9.out
         rw [e9] at h9 ⊢
         refine ArgsAt.of_own (e:=40) (size:=6) h9 (HTR.out.keep (fun b hb hlt=>⟨HG9.out.block b hlt (by show some b≠some wc.heap.size;simp;omega),by have:=HG5.out;omega⟩) HG9.out.size) (fun b hb=>by have:=(h9.lt b hb).1;have:=HG5.out;omega))
        obtain⟨q0,q1,q2,q3,q4,q5,HFN⟩:=HX9.out.fin HL.out (hd:=⟨10,0,0,0,[]⟩) (ar:=(.cons hd ar F)) (sl:=(.slice a9 (1+F.len) c9)) (d:=d+1) HA9.out (goodE.up (.inl ⟨rfl,rfl,.inr (.inr (.inr (.inr (.inr (.inr ⟨rfl,rfl,hd,ar,F,rfl,H13.out,by omega⟩)))))⟩) rfl (goodF.cons HGF.out HC.out.1) (by simp only [Fo.len];omega)) _ rfl
        refine bodyPost_ret (v:=exv ⟨10,0,0,0,[]⟩ (.slice a9 (1+F.len) c9)) (by simp [results,Tryd.results49,go_sem,q0,q1,q2,q3,q4,q5]) rfl ?_
        exact⟨HFN.out,_,_,rfl,.inr rfl⟩
end Go.Proofs.YtpcdinelpfbpfaaDoor
