/-
  WORDS for the implementation's parser, and WALKS of its small functions. (Filled in from a template of this repo, printed by mk_psw.py.)
-/
import Derived.Deep.CutBlock
import Derived.Deep.CutRange
import Derived.Test.YtpcdinelpfbpfaaDoorPsT
namespace Go.Proofs.YtpcdinelpfbpfaaDoor
open Go.ChangeShapes Go.WideShapes Go.ChangeAt Go.RowKit
set_option linter.unusedVariables false
set_option linter.unusedSimpArgs false

structure PC where
 g:Nat
 al:Option Addr
 cl:Nat
 ts:List Tk
 wr:Int
structure PAt (w:World) (K:PC) (at_:Nat) (rest:List Tk):Prop where
 row:w.heap[K.g]?=some (.cells #[.slice K.al K.ts.length K.cl,.int .i64 (at_:Int),.int .i64 K.wr] 52 (0,0))
 tk:Tks w K.al K.ts
 ne : ∀ x,K.al=some x->x.block≠K.g
 dr:K.ts.drop at_=rest
 en:EndT rest
 cap:K.ts.length<=K.cl/\K.cl<=maxLen
 n:K.ts.length<=100000
theorem PAt.lt {w:World} {K:PC} {at_:Nat} {rest:List Tk} (h:PAt w K at_ rest):at_<K.ts.length/\K.ts.length=at_+rest.length:=by
 obtain⟨x,r,e⟩:=h.en.cons
 have h1:=h.dr
 rw [e] at h1
 have h2:=congrArg List.length h1
 rw [List.length_drop,List.length_cons] at h2
 rw [e,List.length_cons]
 omega
theorem PAt.glt {w:World} {K:PC} {at_:Nat} {rest:List Tk} (h:PAt w K at_ rest):K.g<w.heap.size:=heap_lt h.row
theorem PAt.grown {w w':World} {K:PC} {at_:Nat} {rest:List Tk} {r:Option Nat} (h:PAt w K at_ rest) (hg:w.grownBy w' r) (hr : ∀ k,r=some k->k≠K.g /\ ∀ x,K.al=some x->x.block≠k):PAt w' K at_ rest :=
 {h with
  row:=(hg.block K.g h.glt (fun e=>(hr K.g e.symm).1 rfl)).trans h.row
  tk:=fun j x hj=>by
   obtain⟨b,off,e,hb,h0,h1,h2,h3⟩:=h.tk j x hj
   have key:w'.heap[b]?=w.heap[b]?:=hg.block b hb (fun e2=>(hr b e2.symm).2 _ e rfl)
   have kc : ∀ o,w'.cell? ⟨b,o,none⟩=w.cell? ⟨b,o,none⟩:=fun o=>World.cell?_of_block (a:=⟨b,o,none⟩) key
   exact⟨b,off,e,by have:=hg.size;omega,(kc _).trans h0,(kc _).trans h1,(kc _).trans h2,(kc _).trans h3⟩ }
theorem PAt.below {w w':World} {K:PC} {at_:Nat} {rest:List Tk} (h:PAt w K at_ rest) (hb:Below w.heap.size w w'):PAt w' K at_ rest:=h.grown (grownBy_of_below hb none) (fun k e=>by cases e)
theorem PAt.tok {w:World} {K:PC} {at_:Nat} {rest:List Tk} (h:PAt w K at_ rest) : ∃ x r b off,rest=x::r/\K.al=some ⟨b,off,none⟩/\b<w.heap.size/\b≠K.g /\
  w.cell? ⟨b,off+at_ * 4,none⟩=some (.int .i64 x.k)/\w.cell? ⟨b,off+at_ * 4+1,none⟩=some (.int .i64 x.n)/\w.cell? ⟨b,off+at_ * 4+2,none⟩=some (.int .i64 x.v)/\w.cell? ⟨b,off+at_ * 4+3,none⟩=some (.string (st x.t)):=by
 obtain⟨x,r,e⟩:=h.en.cons
 have h1:=h.dr
 rw [e] at h1
 have hx:K.ts[at_]?=some x:=by
  have:=congrArg (fun l=>l[0]?) h1
  simpa using this
 obtain⟨b,off,e2,hb,h0,h2,h3,h4⟩:=h.tk at_ x hx
 exact⟨x,r,b,off,e,e2,hb,h.ne _ e2,h0,h2,h3,h4⟩
theorem PAt.step {w:World} {K:PC} {at_:Nat} {rest:List Tk} (h:PAt w K at_ rest) (hk:kOf rest≠0):PAt (w.setCell ⟨K.g,1,none⟩ (.int .i64 ((at_:Int)+1))) K (at_+1) rest.tail :=
 have hset:=grownBy_set w K.g 1 (.int .i64 ((at_:Int)+1))
 {row:=heap_setCell_same w K.g 1 _ _ _ h.row
  tk:=fun j x hj=>by
   obtain⟨b,off,e,hb,h0,h1,h2,h3⟩:=h.tk j x hj
   have key:(w.setCell ⟨K.g,1,none⟩ (.int .i64 ((at_:Int)+1))).heap[b]?=w.heap[b]?:=hset.block b hb (fun e2=>by injection e2 with e2;exact h.ne _ e e2)
   have kc : ∀ o,(w.setCell ⟨K.g,1,none⟩ (.int .i64 ((at_:Int)+1))).cell? ⟨b,o,none⟩=w.cell? ⟨b,o,none⟩:=fun o=>World.cell?_of_block (a:=⟨b,o,none⟩) key
   exact⟨b,off,e,by have:=hset.size;omega,(kc _).trans h0,(kc _).trans h1,(kc _).trans h2,(kc _).trans h3⟩
  ne:=h.ne
  dr:=by rw [<- h.dr,List.tail_drop]
  en:=h.en.kOf hk
  cap:=h.cap
  n:=h.n }
theorem PAt.cells {w:World} {K:PC} {at_:Nat} {rest:List Tk} (h:PAt w K at_ rest):w.cell? ⟨K.g,0,none⟩=some (.slice K.al K.ts.length K.cl)/\w.cell? ⟨K.g,1,none⟩=some (.int .i64 (at_:Int))/\w.cell? ⟨K.g,2,none⟩=some (.int .i64 K.wr) /\
  w.frozen? ⟨K.g,1,none⟩=false/\w.frozen? ⟨K.g,2,none⟩=false/\K.g<w.heap.size :=
 ⟨cell_of_row _ _ 0 _ _ _ h.row,cell_of_row _ _ 1 _ _ _ h.row,cell_of_row _ _ 2 _ _ _ h.row,frozen_of_row _ _ 1 _ _ h.row,frozen_of_row _ _ 2 _ _ h.row,h.glt⟩
abbrev tokv (x:Tk):Value:=.agg #[.int .i64 x.k,.int .i64 x.n,.int .i64 x.v,.string (st x.t)]
def hdT:List Tk->Tk
 | x::_=>x
 | []=>⟨0,0,0,[]⟩
set_option maxRecDepth 100000 in
set_option maxHeartbeats 4000000 in
theorem look_any (K:PC) (at_:Nat) (rest:List Tk) (w:World) (h:PAt w K at_ rest):Calls Tryd.prog 15 #[.pointer (some ⟨K.g,0,none⟩)] w fun e w'=>e=.returned (tokv (hdT rest))/\Below w.heap.size w w':=by
 have hlt:=h.lt.1
 have hcap:=h.cap
 have hn:=h.n
 have hr:=heap_alloc_new w (.cells #[.int .i64 0,.int .i64 0,.int .i64 0,.string ⟨#[]⟩] 56)
 have hbA:=below_alloc w (.cells #[.int .i64 0,.int .i64 0,.int .i64 0,.string ⟨#[]⟩] 56)
 have hglt:=h.glt
 obtain⟨x,r,b,off,rfl,hal,hb,hbg,t0,t1,t2,t3⟩:=h.tok
 obtain⟨p0,p1,-,-,-,-⟩:=h.cells
 rw [hal] at p0
 have q0:=(hbA.cell (p:=⟨K.g,0,none⟩) hglt).trans p0
 have q1:=(hbA.cell (p:=⟨K.g,1,none⟩) hglt).trans p1
 have s0:=(hbA.cell (p:=⟨b,off+at_ * 4,none⟩) hb).trans t0
 have s1:=(hbA.cell (p:=⟨b,off+at_ * 4+1,none⟩) hb).trans t1
 have s2:=(hbA.cell (p:=⟨b,off+at_ * 4+2,none⟩) hb).trans t2
 have s3:=(hbA.cell (p:=⟨b,off+at_ * 4+3,none⟩) hb).trans t3
 obtain⟨k,n,v,tt⟩:=x
 dsimp only at *
 obtain⟨g,hg⟩ : ∃ g,K.g=g:=⟨_,rfl⟩
 obtain⟨N,hN⟩ : ∃ N,K.ts.length=N:=⟨_,rfl⟩
 obtain⟨cl,hcl⟩ : ∃ c,K.cl=c:=⟨_,rfl⟩
 rw [hN,hcl] at hcap q0
 rw [hN] at hlt hn
 rw [hg] at q0 q1 hglt hbg ⊢
 have hcl2:cl<=9223372036854775807:=by have:=hcap.2;unfold maxLen at this;omega
 have hlt2:(at_:Int)<(N:Int):=by omega
 clear h hal p0 p1 t0 t1 t2 t3 hN hcl hg
 go_enter Tryd.func15,Tryd.ntmps15
 go_upto_region 1 with fail
 obtain⟨w1,hw1⟩ : ∃ W,w.alloc (.cells #[.int .i64 0,.int .i64 0,.int .i64 0,.string ⟨#[]⟩] 56)=W:=⟨_,rfl⟩
 obtain⟨gr,hgr⟩ : ∃ x,w.heap.size=x:=⟨_,rfl⟩
 rw [hw1] at hr hbA q0 q1 s0 s1 s2 s3 ⊢
 rw [hgr] at hr hglt hb
 (try rw [hgr])
 have HB:=Lib.hid (And.intro hbA hgr)
 have HR:=Lib.hid hr
 have n1:gr≠g:=by omega
 have n2:gr≠b:=by omega
 clear hw1 hgr hbA hr
 refine wp_region_held_drew (S:=(fun w'=>w'.cell? ⟨g,0,none⟩=some (.slice (some ⟨b,off,none⟩) N cl)/\w'.cell? ⟨g,1,none⟩=some (.int .i64 (at_:Int))/\w'.cell? ⟨b,off+at_ * 4,none⟩=some (.int .i64 k)/\w'.cell? ⟨b,off+at_ * 4+1,none⟩=some (.int .i64 n)/\w'.cell? ⟨b,off+at_ * 4+2,none⟩=some (.int .i64 v)/\w'.cell? ⟨b,off+at_ * 4+3,none⟩=some (.string (st tt)))) (by kernel_rfl) ⟨q0,q1,s0,s1,s2,s3⟩ (fun hHeld=>?_)
 refine tkH 0 3 ?_
 refine tkH 1 4 ?_
 refine tkH 2 5 ?_
 refine tkH 3 6 ?_
 refine tkH 4 7 ?_
 refine tkH 5 8 ?_
 refine tkH 6 9 ?_
 refine tkH 7 10 ?_
 refine tkH 8 11 ?_
 refine tkH 9 12 ?_
 refine rdH 10 fun K0 hK=>?_
 have c0:=cell_of_row _ _ 0 _ _ _ HR.out
 have c1:=cell_of_row _ _ 1 _ _ _ HR.out
 have c2:=cell_of_row _ _ 2 _ _ _ HR.out
 have c3:=cell_of_row _ _ 3 _ _ _ HR.out
 have f0:=frozen_of_row _ gr 0 _ _ HR.out
 have f1:=frozen_of_row _ gr 1 _ _ HR.out
 have f2:=frozen_of_row _ gr 2 _ _ HR.out
 have f3:=frozen_of_row _ gr 3 _ _ HR.out
 have jl:=heap_lt HR.out
 go_simp
 refine goH hK ⟨cell_set4 n1 hHeld.1,cell_set4 n1 hHeld.2.1,cell_set4 n2 hHeld.2.2.1,cell_set4 n2 hHeld.2.2.2.1,cell_set4 n2 hHeld.2.2.2.2.1,cell_set4 n2 hHeld.2.2.2.2.2⟩ fun hHeld=>?_
 clear hK K0
 refine wpAnyH_done (by kernel_rfl) ?_ _
 (try simp only [Act.put,List.setIfInBounds_toArray,List.set_cons_zero,List.set_cons_succ])
 have hfin:=heap_set4 (w:=w1) (v0:=.int .i64 k) (v1:=.int .i64 n) (v2:=.int .i64 v) (v3:=.string (st tt)) HR.out
 have hbel:=(below_set4 (w:=w1) (B:=w.heap.size) (w0:=w) (b:=gr) (v0:=.int .i64 k) (v1:=.int .i64 n) (v2:=.int .i64 v) (v3:=.string (st tt)) HB.out.1 (by rw [HB.out.2];exact Nat.le_refl _)).drew
 have hfin:(set4 w1 gr (.int .i64 k) (.int .i64 n) (.int .i64 v) (.string (st tt))).drew.heap[gr]?=some (.cells #[.int .i64 k,.int .i64 n,.int .i64 v,.string (st tt)] 56 (0,0)):=hfin
 have d0:=cell_of_row _ _ 0 _ _ _ hfin
 have d1:=cell_of_row _ _ 1 _ _ _ hfin
 have d2:=cell_of_row _ _ 2 _ _ _ hfin
 have d3:=cell_of_row _ _ 3 _ _ _ hfin
 have HBEL:=Lib.hid hbel
 obtain⟨wn,hwn⟩ : ∃ wn,(set4 w1 gr (.int .i64 k) (.int .i64 n) (.int .i64 v) (.string (st tt))).drew=wn:=⟨_,rfl⟩
 have hwn2:=hwn
 unfold set4 at hwn2
 rw [hwn2]
 rw [hwn] at HBEL d0 d1 d2 d3
 clear hwn hwn2 hfin hbel c0 c1 c2 c3 f0 f1 f2 f3 jl hHeld q0 q1 s0 s1 s2 s3
 go_wp2_with fail
 refine bodyPost_ret (v:=.agg #[.int .i64 k,.int .i64 n,.int .i64 v,.string (st tt)]) (by simp [results,Tryd.results15,go_sem,d0,d1,d2,d3]) rfl ?_
 exact⟨rfl,HBEL.out⟩
theorem look_at (K:PC) (at_:Nat) (k n v:Int) (tt:Bt) (r:List Tk) (w:World) (h:PAt w K at_ (⟨k,n,v,tt⟩::r)):Calls Tryd.prog 15 #[.pointer (some ⟨K.g,0,none⟩)] w fun e w'=>e=.returned (.agg #[.int .i64 k,.int .i64 n,.int .i64 v,.string (st tt)])/\Below w.heap.size w w':=look_any K at_ _ w h
theorem k34 (x:Tk):(x.k==3||x.k==4)=true\/((x.k==3)=false/\(x.k==4)=false):=by
 cases h3:(x.k==3) <;> cases h4:(x.k==4) <;> simp
set_option maxRecDepth 100000 in
set_option maxHeartbeats 4000000 in
theorem is_any (K:PC) (at_:Nat) (rest:List Tk) (t:Bt) (w:World) (h:PAt w K at_ rest):Calls Tryd.prog 29 #[.pointer (some ⟨K.g,0,none⟩),.string (st t)] w fun e w'=>e=.returned (.bool (isT t rest))/\Below w.heap.size w w':=by
 obtain⟨⟨k,n,v,tt⟩,r,rfl⟩:=h.en.cons
 have HP:=Lib.hid h
 clear h
 go_enter Tryd.func29,Tryd.ntmps29
 go_wp2_with fail
 refine(look_at K at_ k n v tt r _ HP.out).mono ?_
 rintro e w2 ⟨rfl,hb2⟩
 have hb3:=below_alloc w2 (.cells #[.int .i64 k,.int .i64 n,.int .i64 v,.string (st tt)] 56)
 have hr:=heap_alloc_new w2 (.cells #[.int .i64 k,.int .i64 n,.int .i64 v,.string (st tt)] 56)
 go_upto_region 2 with fail
 obtain⟨w3,hw3⟩ : ∃ W,w2.alloc (.cells #[.int .i64 k,.int .i64 n,.int .i64 v,.string (st tt)] 56)=W:=⟨_,rfl⟩
 obtain⟨gr,hgr⟩ : ∃ x,w2.heap.size=x:=⟨_,rfl⟩
 rw [hw3] at hr hb3 ⊢
 rw [hgr] at hr
 (try rw [hgr])
 have HB:=Lib.hid (hb2.trans (hb3.mono hb2.size))
 have c0:=cell_of_row _ _ 0 _ _ _ hr
 have c3:=cell_of_row _ _ 3 _ _ _ hr
 have hl:=heap_lt hr
 clear hw3 hgr hr hb3 hb2
 cases h3:(k==3)
 ·cases h4:(k==4)
  ·have HE:Hid (isT t ({ k:=k,n:=n,v:=v,t:=tt }::r)=false):=Lib.hid (by simp [isT,h3,h4])
   go_wp2_with fail
   go_ret
   exact⟨by rw [HE.out];try rfl,HB.out⟩
  ·have HE:Hid (isT t ({ k:=k,n:=n,v:=v,t:=tt }::r)=(tt==t)):=Lib.hid (by simp [isT,h3,h4])
   go_wp2_with fail
   go_ret
   exact⟨by rw [HE.out];try rfl,HB.out⟩
 ·have HE:Hid (isT t ({ k:=k,n:=n,v:=v,t:=tt }::r)=(tt==t)):=Lib.hid (by simp [isT,h3])
  go_wp2_with fail
  go_ret
  exact⟨by rw [HE.out];try rfl,HB.out⟩
def AcPost (K:PC) (at_:Nat) (rest:List Tk) (t:Bt) (w:World) (e:Ending) (w':World):Prop :=
 ∃ at2 rest2,e=.returned (.bool (isT t rest))/\PAt w' K at2 rest2/\w.grownBy w' (some K.g)/\((isT t rest=true/\at2=at_+1/\rest2=rest.tail)\/(isT t rest=false/\at2=at_/\rest2=rest))
set_option maxRecDepth 100000 in
set_option maxHeartbeats 4000000 in
theorem accept_any (K:PC) (at_:Nat) (rest:List Tk) (t:Bt) (w:World) (h:PAt w K at_ rest):Calls Tryd.prog 24 #[.pointer (some ⟨K.g,0,none⟩),.string (st t)] w (AcPost K at_ rest t w):=by
 have HP:=Lib.hid h
 clear h
 go_enter Tryd.func24,Tryd.ntmps24
 go_wp2_with fail
 refine(is_any K at_ rest t _ HP.out).mono ?_
 rintro e w2 ⟨rfl,hb2⟩
 have HP2:=Lib.hid (HP.out.below hb2)
 have HG2:=Lib.hid (grownBy_of_below hb2 (some K.g))
 clear hb2
 cases hT:isT t rest
 ·have HT:=Lib.hid hT
  clear hT
  go_wp2_with fail
  go_ret
  exact⟨at_,rest,by rw [HT.out];rfl,HP2.out,HG2.out,.inr ⟨HT.out,rfl,rfl⟩⟩
 ·have HT:=Lib.hid hT
  obtain⟨-,p1,-,f1,-,hl⟩:=HP2.out.cells
  have hn:=HP2.out.n
  have hlt:=HP2.out.lt.1
  have hw1:IntKind.i64.wrap ((at_:Int)+1)=(at_:Int)+1:=by rw [IntKind.wrap_i64];omega
  have HF:=Lib.hid (And.intro (HP2.out.step (isT_k HT.out).2.2.1) (grownBy_trans HG2.out (grownBy_set w2 K.g 1 (.int .i64 ((at_:Int)+1)))))
  clear hn hlt hT
  go_wp2_with fail
  go_ret
  exact⟨at_+1,rest.tail,by rw [HT.out];rfl,HF.out.1,HF.out.2,.inl ⟨HT.out,rfl,rfl⟩⟩
def NmPost (K:PC) (at_:Nat) (rest:List Tk) (w:World) (e:Ending) (w':World):Prop :=
 ∃ at2 rest2,PAt w' K at2 rest2/\w.grownBy w' (some K.g)/\((kOf rest=1/\e=.returned (.tuple #[.string (st (tOf rest)),.bool true])/\at2=at_+1/\rest2=rest.tail)\/(kOf rest≠1/\e=.returned (.tuple #[.string ⟨#[]⟩,.bool false])/\at2=at_/\rest2=rest))
set_option maxRecDepth 100000 in
set_option maxHeartbeats 4000000 in
theorem name_any (K:PC) (at_:Nat) (rest:List Tk) (w:World) (h:PAt w K at_ rest):Calls Tryd.prog 39 #[.pointer (some ⟨K.g,0,none⟩)] w (NmPost K at_ rest w):=by
 obtain⟨⟨k,n,v,tt⟩,r,hxr⟩:=h.en.cons
 have HX:=Lib.hid hxr
 have HP:=Lib.hid h
 clear h hxr
 go_enter Tryd.func39,Tryd.ntmps39
 go_wp2_with fail
 refine(look_at K at_ k n v tt r _ (HX.out▸HP.out)).mono ?_
 rintro e w2 ⟨rfl,hb2⟩
 have hb3:=below_alloc w2 (.cells #[.int .i64 k,.int .i64 n,.int .i64 v,.string (st tt)] 56)
 have hr:=heap_alloc_new w2 (.cells #[.int .i64 k,.int .i64 n,.int .i64 v,.string (st tt)] 56)
 go_upto_region 2 with fail
 obtain⟨w3,hw3⟩ : ∃ W,w2.alloc (.cells #[.int .i64 k,.int .i64 n,.int .i64 v,.string (st tt)] 56)=W:=⟨_,rfl⟩
 obtain⟨gr,hgr⟩ : ∃ x,w2.heap.size=x:=⟨_,rfl⟩
 rw [hw3] at hr hb3 ⊢
 rw [hgr] at hr
 (try rw [hgr])
 have HB:=Lib.hid (hb2.trans (hb3.mono hb2.size))
 have HR:=Lib.hid hr
 have HP3:=Lib.hid (HP.out.below HB.out)
 have HG3:=Lib.hid (grownBy_of_below HB.out (some K.g))
 have c0:=cell_of_row _ _ 0 _ _ _ hr
 have HGN:Hid (K.g≠gr):=Lib.hid (by have:=HP.out.glt;have:=hb2.size;omega)
 clear hw3 hgr hr hb3 hb2
 by_cases hk:k=1
 ·subst hk
  have HK:Hid (kOf rest=1/\tOf rest=tt):=Lib.hid ⟨by rw [HX.out];rfl,by rw [HX.out];rfl⟩
  obtain⟨-,p1,-,f1,-,hl⟩:=HP3.out.cells
  have hn:=HP3.out.n
  have hlt:=HP3.out.lt.1
  have hw1:IntKind.i64.wrap ((at_:Int)+1)=(at_:Int)+1:=by rw [IntKind.wrap_i64];omega
  have HF:=Lib.hid (And.intro (HP3.out.step (by have:=HK.out.1;omega)) (grownBy_trans HG3.out (grownBy_set w3 K.g 1 (.int .i64 ((at_:Int)+1)))))
  have hr2:=(heap_setCell_other w3 ⟨K.g,1,none⟩ gr (.int .i64 ((at_:Int)+1)) (by have:=HGN.out;exact fun e=>this e.symm)).trans HR.out
  have c3:=cell_of_row _ _ 3 _ _ _ hr2
  have hl2:=heap_lt hr2
  clear hn hlt hr2
  go_wp2_with fail
  refine bodyPost_ret (v:=.tuple #[.string (st tt),.bool true]) (by simp [results,Tryd.results39,go_sem]) rfl ?_
  exact⟨at_+1,rest.tail,HF.out.1,HF.out.2,.inl ⟨HK.out.1,by rw [HK.out.2],rfl,rfl⟩⟩
 ·have dk:(k==1)=false:=by rw [beq_eq_false_iff_ne];exact hk
  have dk2:(k != 1)=true:=by rw [bne_iff_ne];exact hk
  have HK:Hid (kOf rest≠1):=Lib.hid (by rw [HX.out];exact hk)
  clear hk
  go_wp2_with fail
  refine bodyPost_ret (v:=.tuple #[.string ⟨#[]⟩,.bool false]) (by simp [results,Tryd.results39,go_sem]) rfl ?_
  exact⟨at_,rest,HP3.out,HG3.out,.inr ⟨HK.out,rfl,rfl,rfl⟩⟩
set_option maxRecDepth 100000 in
set_option maxHeartbeats 4000000 in
theorem binary_any (t:Bt) (w:World):Calls Tryd.prog 71 #[.string (st t)] w fun e w'=>e=.returned (.int .i64 (opOf t))/\w'=w:=by
 have HE:Hid (opOf t=if t=[60] then 8 else if t=[60,61] then 9 else if t=[61,61] then 10 else if t=[33,61] then 11 else if t=[43] then 3 else if t=[45] then 4 else if t=[42] then 5 else if t=[47] then 6 else if t=[37] then 7 else 0):=Lib.hid rfl
 by_cases h:t=[60]
 ·subst h
  go_enter Tryd.func71,Tryd.ntmps71
  go_wp2_with fail
  go_ret
  exact⟨rfl,rfl⟩
 have h0:(t==[60])=false:=by rw [beq_eq_false_iff_ne];exact h
 rw [if_neg h] at HE
 clear h
 by_cases h:t=[60,61]
 ·subst h
  go_enter Tryd.func71,Tryd.ntmps71
  go_wp2_with fail
  go_ret
  exact⟨rfl,rfl⟩
 have h1:(t==[60,61])=false:=by rw [beq_eq_false_iff_ne];exact h
 rw [if_neg h] at HE
 clear h
 by_cases h:t=[61,61]
 ·subst h
  go_enter Tryd.func71,Tryd.ntmps71
  go_wp2_with fail
  go_ret
  exact⟨rfl,rfl⟩
 have h2:(t==[61,61])=false:=by rw [beq_eq_false_iff_ne];exact h
 rw [if_neg h] at HE
 clear h
 by_cases h:t=[33,61]
 ·subst h
  go_enter Tryd.func71,Tryd.ntmps71
  go_wp2_with fail
  go_ret
  exact⟨rfl,rfl⟩
 have h3:(t==[33,61])=false:=by rw [beq_eq_false_iff_ne];exact h
 rw [if_neg h] at HE
 clear h
 by_cases h:t=[43]
 ·subst h
  go_enter Tryd.func71,Tryd.ntmps71
  go_wp2_with fail
  go_ret
  exact⟨rfl,rfl⟩
 have h4:(t==[43])=false:=by rw [beq_eq_false_iff_ne];exact h
 rw [if_neg h] at HE
 clear h
 by_cases h:t=[45]
 ·subst h
  go_enter Tryd.func71,Tryd.ntmps71
  go_wp2_with fail
  go_ret
  exact⟨rfl,rfl⟩
 have h5:(t==[45])=false:=by rw [beq_eq_false_iff_ne];exact h
 rw [if_neg h] at HE
 clear h
 by_cases h:t=[42]
 ·subst h
  go_enter Tryd.func71,Tryd.ntmps71
  go_wp2_with fail
  go_ret
  exact⟨rfl,rfl⟩
 have h6:(t==[42])=false:=by rw [beq_eq_false_iff_ne];exact h
 rw [if_neg h] at HE
 clear h
 by_cases h:t=[47]
 ·subst h
  go_enter Tryd.func71,Tryd.ntmps71
  go_wp2_with fail
  go_ret
  exact⟨rfl,rfl⟩
 have h7:(t==[47])=false:=by rw [beq_eq_false_iff_ne];exact h
 rw [if_neg h] at HE
 clear h
 by_cases h:t=[37]
 ·subst h
  go_enter Tryd.func71,Tryd.ntmps71
  go_wp2_with fail
  go_ret
  exact⟨rfl,rfl⟩
 have h8:(t==[37])=false:=by rw [beq_eq_false_iff_ne];exact h
 rw [if_neg h] at HE
 clear h
 go_enter Tryd.func71,Tryd.ntmps71
 go_wp2_with fail
 go_ret
 exact⟨by rw [HE.out];try rfl,rfl⟩
def OpPost (K:PC) (lo hi:Int) (at_:Nat) (rest:List Tk) (w:World) (e:Ending) (w':World):Prop :=
 ∃ at2 rest2,PAt w' K at2 rest2/\w.grownBy w' (some K.g)/\((opIn lo hi rest≠0/\e=.returned (.tuple #[.int .i64 (opIn lo hi rest),.int .i64 (lnOf rest)])/\at2=at_+1/\rest2=rest.tail)\/(opIn lo hi rest=0/\e=.returned (.tuple #[.int .i64 0,.int .i64 0])/\at2=at_/\rest2=rest))
set_option maxRecDepth 100000 in
set_option maxHeartbeats 4000000 in
theorem operator_any (K:PC) (lo hi:Int) (hlo:0<lo) (at_:Nat) (rest:List Tk) (w:World) (h:PAt w K at_ rest):Calls Tryd.prog 55 #[.pointer (some ⟨K.g,0,none⟩),.int .i64 lo,.int .i64 hi] w (OpPost K lo hi at_ rest w):=by
 obtain⟨⟨k,n,v,tt⟩,r,hxr⟩:=h.en.cons
 have HX:=Lib.hid hxr
 have HP:=Lib.hid h
 have HLO:=Lib.hid hlo
 clear h hxr hlo
 go_enter Tryd.func55,Tryd.ntmps55
 go_wp2_with fail
 refine(look_at K at_ k n v tt r _ (HX.out▸HP.out)).mono ?_
 rintro e w2 ⟨rfl,hb2⟩
 have hb3:=below_alloc w2 (.cells #[.int .i64 k,.int .i64 n,.int .i64 v,.string (st tt)] 56)
 have hr:=heap_alloc_new w2 (.cells #[.int .i64 k,.int .i64 n,.int .i64 v,.string (st tt)] 56)
 go_upto_region 2 with fail
 obtain⟨w3,hw3⟩ : ∃ W,w2.alloc (.cells #[.int .i64 k,.int .i64 n,.int .i64 v,.string (st tt)] 56)=W:=⟨_,rfl⟩
 obtain⟨gr,hgr⟩ : ∃ x,w2.heap.size=x:=⟨_,rfl⟩
 rw [hw3] at hr hb3 ⊢
 rw [hgr] at hr
 (try rw [hgr])
 have HB:=Lib.hid (hb2.trans (hb3.mono hb2.size))
 have HR:=Lib.hid hr
 have HP3:=Lib.hid (HP.out.below HB.out)
 have HG3:=Lib.hid (grownBy_of_below HB.out (some K.g))
 have c0:=cell_of_row _ _ 0 _ _ _ hr
 have c3:=cell_of_row _ _ 3 _ _ _ hr
 have hl3:=heap_lt hr
 have HGN:Hid (K.g≠gr):=Lib.hid (by have:=HP.out.glt;have:=hb2.size;omega)
 have HOP:Hid (opIn lo hi rest=if k=4/\lo<=opOf tt/\opOf tt<=hi then opOf tt else 0):=Lib.hid (by rw [HX.out];rfl)
 have HLN:Hid (lnOf rest=n/\kOf rest=k):=Lib.hid (by rw [HX.out];exact⟨rfl,rfl⟩)
 clear hw3 hgr hr hb3 hb2
 by_cases hk:k=4
 ·subst hk
  have hop:=opOf_pos tt
  obtain⟨op,ho⟩ : ∃ o,opOf tt=o:=⟨_,rfl⟩
  have HBI:=Lib.hid (binary_any tt)
  rw [ho] at hop HOP HBI
  clear ho
  go_wp2_with fail
  refine(HBI.out _).mono ?_
  rintro e w4 ⟨rfl,rfl⟩
  by_cases h1:op<lo
  ·have d1:decide (op<lo)=true:=by rw [decide_eq_true_iff];exact h1
   have HZ:Hid (opIn lo hi rest=0):=Lib.hid (by rw [HOP.out,if_neg (by omega)])
   clear h1
   go_wp2_with fail
   refine bodyPost_ret (v:=.tuple #[.int .i64 0,.int .i64 0]) (by simp [results,Tryd.results55,go_sem]) rfl ?_
   exact⟨at_,rest,HP3.out,HG3.out,.inr ⟨HZ.out,rfl,rfl,rfl⟩⟩
  have d1:decide (op<lo)=false:=by rw [decide_eq_false_iff_not];exact h1
  by_cases h2:hi<op
  ·have d2:decide (hi<op)=true:=by rw [decide_eq_true_iff];exact h2
   have HZ:Hid (opIn lo hi rest=0):=Lib.hid (by rw [HOP.out,if_neg (by omega)])
   clear h1 h2
   go_wp2_with fail
   refine bodyPost_ret (v:=.tuple #[.int .i64 0,.int .i64 0]) (by simp [results,Tryd.results55,go_sem]) rfl ?_
   exact⟨at_,rest,HP3.out,HG3.out,.inr ⟨HZ.out,rfl,rfl,rfl⟩⟩
  have d2:decide (hi<op)=false:=by rw [decide_eq_false_iff_not];exact h2
  have HZ:Hid (opIn lo hi rest=op/\op≠0):=Lib.hid ⟨by rw [HOP.out,if_pos ⟨by simp,by omega,by omega⟩],by have:=HLO.out;omega⟩
  obtain⟨-,p1,-,f1,-,hl⟩:=HP3.out.cells
  have hn:=HP3.out.n
  have hlt:=HP3.out.lt.1
  have hw1:IntKind.i64.wrap ((at_:Int)+1)=(at_:Int)+1:=by rw [IntKind.wrap_i64];omega
  have HF:=Lib.hid (And.intro (HP3.out.step (by have:=HLN.out.2;omega)) (grownBy_trans HG3.out (grownBy_set w4 K.g 1 (.int .i64 ((at_:Int)+1)))))
  have hr2:=(heap_setCell_other w4 ⟨K.g,1,none⟩ gr (.int .i64 ((at_:Int)+1)) (by have:=HGN.out;exact fun e=>this e.symm)).trans HR.out
  have e1:=cell_of_row _ _ 1 _ _ _ hr2
  have hl2:=heap_lt hr2
  clear hn hlt hr2 h1 h2 c0 c3 hl3
  go_upto_region 8 with fail
  obtain⟨w5,hw5⟩ : ∃ W,w4.setCell ⟨K.g,1,none⟩ (.int .i64 ((at_:Int)+1))=W:=⟨_,rfl⟩
  rw [hw5] at HF e1 hl2 ⊢
  clear hw5 p1 f1 hl
  refine wp_region_below (by kernel_rfl) (by kernel_rfl) ?_
  have m1 : ∀ y:Since w5,y.val.cell? ⟨gr,1,none⟩=some (.int .i64 n):=fun y=>y.cell e1
  repeat (go_big_quiet_step (fail))
  refine wpQuiet_nil ?_
  intro w6 hb6
  clear m1
  go_wp2_with fail
  refine bodyPost_ret (v:=.tuple #[.int .i64 op,.int .i64 n]) (by simp [results,Tryd.results55,go_sem]) rfl ?_
  exact⟨at_+1,rest.tail,HF.out.1.below hb6,grownBy_trans HF.out.2 (grownBy_of_below hb6 _),.inl ⟨by rw [HZ.out.1];exact HZ.out.2,by rw [HZ.out.1,HLN.out.1],rfl,rfl⟩⟩
 ·have dk:(k==4)=false:=by rw [beq_eq_false_iff_ne];exact hk
  have dk2:(k != 4)=true:=by rw [bne_iff_ne];exact hk
  have HZ:Hid (opIn lo hi rest=0):=Lib.hid (by rw [HOP.out,if_neg (fun h=>hk h.1)])
  clear hk
  go_wp2_with fail
  refine bodyPost_ret (v:=.tuple #[.int .i64 0,.int .i64 0]) (by simp [results,Tryd.results55,go_sem]) rfl ?_
  exact⟨at_,rest,HP3.out,HG3.out,.inr ⟨HZ.out,rfl,rfl,rfl⟩⟩
end Go.Proofs.YtpcdinelpfbpfaaDoor
