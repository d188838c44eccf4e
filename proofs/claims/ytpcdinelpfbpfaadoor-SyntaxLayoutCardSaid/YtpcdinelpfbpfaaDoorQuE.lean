/-
  WALK of the reference's Equal and Same. (Filled in from a template of this repo, printed by mk_que.py.)
-/
import Derived.Test.YtpcdinelpfbpfaaDoorQuS
import Derived.Test.YtpcdinelpfbpfaaDoorPqO
import Derived.Laws.StructEq
namespace Go.Proofs.YtpcdinelpfbpfaaDoor
open Go Go.ChangeShapes Go.WideShapes Go.ChangeAt Go.RowKit
set_option linter.unusedVariables false
set_option linter.unusedSimpArgs false

theorem glob_neq (a b:Bt) (x y:Int) (W:World):(binOp .neq 62 (.agg #[.string (st a),.int .i64 x]) (.agg #[.string (st b),.int .i64 y])).run Tryd.prog W=.ok (.bool (!(a==b&&x==y))) W:=by
 have h1:(st a).toList=a:=by simp
 have h2:(st b).toList=b:=by simp
 rw [run_neq_struct]
 go_simp
 by_cases h:a=b <;> by_cases k:x=y <;> simp [h,k]
theorem eqFs_len {l:Bool} {fs gs:List Fu} (h:fs.length≠gs.length):eqFs l fs gs=false:=by
 induction fs generalizing gs with
 | nil =>
  cases gs with
  | nil=>exact absurd rfl h
  | cons _ _=>rfl
 | cons f fs ih =>
  cases gs with
  | nil=>rfl
  | cons g gs =>
   have:=ih (gs:=gs) (fun e=>h (by simp [e]))
   simp [eqFs,this]
theorem gcs_at (gs:List (Bt×Int)) (j:Nat) (x:Bt×Int) (h:gs[j]?=some x):(gcs gs)[j * 2]?=some (.string (st x.1))/\(gcs gs)[j * 2+1]?=some (.int .i64 x.2):=by
 induction gs generalizing j with
 | nil=>cases h
 | cons g gs ih =>
  cases j with
  | zero =>
   have e:g=x:=by simpa using h
   subst e
   exact⟨rfl,rfl⟩
  | succ j =>
   have:=ih j (by simpa using h)
   rw [show (j+1) * 2=j * 2+1+1 by omega]
   exact this
theorem SoAt.gg {w:World} {P:Nat->Prop} {gs:List (Bt×Int)} {fs:List Fu} {ga:Option Addr} {n c:Nat} {vb:Value} (h:SoAt w P gs fs (.slice ga n c) vb) {j:Nat} {x:Bt×Int} (hj:gs[j]?=some x) :
  ∃ b off,ga=some ⟨b,off,none⟩/\b<w.heap.size/\w.cell? ⟨b,off+j * 2,none⟩=some (.string (st x.1))/\w.cell? ⟨b,off+j * 2+1,none⟩=some (.int .i64 x.2):=by
 obtain⟨ga',gc,fa,fc,ys,h1,h2,h3,h4,h5,h6,h7,h8,h9⟩:=h
 injection h1 with e1 e2 e3
 subst e1
 obtain⟨k1,k2⟩:=gcs_at gs j x hj
 obtain⟨b,off,e,_,hb,hc⟩:=h7 (fun e=>by rw [e] at k1;cases k1)
 exact⟨b,off,e,hb,hc _ _ k1,by rw [Nat.add_assoc];exact hc _ _ k2⟩
theorem FusAt.got {w:World} {P:Nat->Prop} {fs:List Fu} {cs:List Value} (h:FusAt w P fs cs) {j:Nat} {x:Fu} (hj:fs[j]?=some x) : ∃ vp vb,PsAt w P x.ps vp/\StsAt w P x.S vb /\ ∀ i u,([.string (st x.nm),.int .i64 x.ln,vp,vb]:List Value)[i]?=some u->cs[j * 4+i]?=some u:=by
 induction fs generalizing cs j with
 | nil=>cases hj
 | cons f fs ih =>
  obtain⟨vp,vb,cs',e,h1,h2,h3⟩:=h
  cases j with
  | zero =>
   have ef:f=x:=by simpa using hj
   subst ef
   refine⟨vp,vb,h1,h2,fun i u hi=>?_⟩
   have:i<4:=(List.getElem?_eq_some_iff.1 hi).1
   rw [e,Nat.zero_mul,Nat.zero_add,List.getElem?_append_left (by simpa using this)]
   exact hi
  | succ j =>
   obtain⟨vp2,vb2,k1,k2,k3⟩:=ih h3 (by simpa using hj)
   refine⟨vp2,vb2,k1,k2,fun i u hi=>?_⟩
   rw [e,List.getElem?_append_right (by show 4<=_;omega)]
   have e2:(j+1) * 4+i - 4=j * 4+i:=by omega
   show cs'[(j+1) * 4+i - 4]?=_
   rw [e2]
   exact k3 i u hi
theorem SoAt.gf {w:World} {P:Nat->Prop} {gs:List (Bt×Int)} {fs:List Fu} {fa:Option Addr} {n c:Nat} {va:Value} (h:SoAt w P gs fs va (.slice fa n c)) {j:Nat} {x:Fu} (hj:fs[j]?=some x) :
  ∃ b off ap cp ab cb,fa=some ⟨b,off,none⟩/\b<w.heap.size/\PsAt w P x.ps (.slice ap x.ps.length cp)/\StsAt w P x.S (.slice ab x.S.len cb)/\w.cell? ⟨b,off+j * 4,none⟩=some (.string (st x.nm))/\w.cell? ⟨b,off+j * 4+1,none⟩=some (.int .i64 x.ln)/\w.cell? ⟨b,off+j * 4+2,none⟩=some (.slice ap x.ps.length cp)/\w.cell? ⟨b,off+j * 4+3,none⟩=some (.slice ab x.S.len cb):=by
 obtain⟨ga,gc,fa',fc,ys,h1,h2,h3,h4,h5,h6,h7,h8,h9⟩:=h
 injection h2 with e1 e2 e3
 subst e1
 obtain⟨vp,vb,k1,k2,k3⟩:=h9.got hj
 have k0:=k3 0 _ rfl
 obtain⟨b,off,e,_,hb,hc⟩:=h8 (fun e=>by rw [e] at k0;cases k0)
 obtain⟨ap,cp,rfl,_⟩:=id k1
 obtain⟨ab,cb,rfl,_⟩:=k2.le
 refine⟨b,off,ap,cp,ab,cb,e,hb,k1,k2,hc _ _ k0,?_,?_,?_⟩ <;> rw [Nat.add_assoc]
 ·exact hc _ _ (k3 1 _ rfl)
 ·exact hc _ _ (k3 2 _ rfl)
 ·exact hc _ _ (k3 3 _ rfl)
theorem PsAt.got {w:World} {P:Nat->Prop} {ps:List Bt} {a:Option Addr} {n c:Nat} (h:PsAt w P ps (.slice a n c)) {j:Nat} {x:Bt} (hj:ps[j]?=some x) : ∃ b off,a=some ⟨b,off,none⟩/\b<w.heap.size/\w.cell? ⟨b,off+j,none⟩=some (.string (st x)):=by
 obtain⟨a',c',e,h1,h2,h3⟩:=h
 injection e with e1 e2 e3
 subst e1
 have hc:(ps.map fun x=>Value.string (st x))[j]?=some (.string (st x)):=by simp [hj]
 obtain⟨b,off,ea,_,hb,hk⟩:=h3 (fun e=>by rw [e] at hc;cases hc)
 exact⟨b,off,ea,hb,hk _ _ hc⟩
theorem eqFs_drop {l:Bool} {fs gs:List Fu} {i:Nat} {f g:Fu} (hf:fs[i]?=some f) (hg:gs[i]?=some g):eqFs l (fs.drop i) (gs.drop i)=(eqFu l f g&&eqFs l (fs.drop (i+1)) (gs.drop (i+1))):=by
 have h1:fs.drop i=f::fs.drop (i+1):=by
  obtain⟨hl,e⟩:=List.getElem?_eq_some_iff.1 hf
  rw [List.drop_eq_getElem_cons hl,e]
 have h2:gs.drop i=g::gs.drop (i+1):=by
  obtain⟨hl,e⟩:=List.getElem?_eq_some_iff.1 hg
  rw [List.drop_eq_getElem_cons hl,e]
 rw [h1,h2]
 rfl
def eqSo (l:Bool) (gs:List (Bt×Int)) (fs:List Fu) (gs2:List (Bt×Int)) (fs2:List Fu):Bool:=decide (gs=gs2)&&eqFs l fs fs2
theorem so_len {w:World} {P:Nat->Prop} {gs:List (Bt×Int)} {fs:List Fu} {va vb:Value} (h:SoAt w P gs fs va vb) : ∃ ga gc fa fc,va=.slice ga gs.length gc/\vb=.slice fa fs.length fc/\gs.length<=maxLen/\fs.length<=maxLen:=by
 obtain⟨ga,gc,fa,fc,ys,h1,h2,h3,h4,h5,h6,h7,h8,h9⟩:=h
 exact⟨ga,gc,fa,fc,h1,h2,by omega,by omega⟩
theorem set4_far2 (w:World) {b k:Nat} {v0 v1 v2 v3:Value} (h:b≠k):(set4 w b v0 v1 v2 v3).heap[k]?=w.heap[k]? :=
 (heap_setCell_other _ ⟨b,3,none⟩ k _ (fun e=>h e.symm)).trans ((heap_setCell_other _ ⟨b,2,none⟩ k _ (fun e=>h e.symm)).trans ((heap_setCell_other _ ⟨b,1,none⟩ k _ (fun e=>h e.symm)).trans (heap_setCell_other _ ⟨b,0,none⟩ k _ (fun e=>h e.symm))))
set_option maxRecDepth 100000 in
set_option maxHeartbeats 16000000 in
theorem Equal_any (lines:Bool) (P Q:Nat->Prop) (gs:List (Bt×Int)) (fs:List Fu) (gs2:List (Bt×Int)) (fs2:List Fu) (va vb va2 vb2:Value) (w:World) (hA:SoAt w P gs fs va vb) (hB:SoAt w Q gs2 fs2 va2 vb2) :
  Calls Tryd.prog 16 #[sov va vb,sov va2 vb2,.bool lines] w fun e w'=>e=.returned (.bool (eqSo lines gs fs gs2 fs2))/\Below w.heap.size w w':=by
 obtain⟨ga,gc,fa,fc,rfl,rfl,hl1,hl2⟩:=so_len hA
 obtain⟨ga2,gc2,fa2,fc2,rfl,rfl,hl3,hl4⟩:=so_len hB
 have hn1:gs.length<=9223372036854775807:=by unfold maxLen at hl1;omega
 have hn2:fs.length<=9223372036854775807:=by unfold maxLen at hl2;omega
 have HA:=Lib.hid hA
 have HB:=Lib.hid hB
 have HO3:Hid (Lo ((w.alloc (.cells #[.slice ga gs.length gc,.slice fa fs.length fc] 32)).alloc (.cells #[.slice ga2 gs2.length gc2,.slice fa2 fs2.length fc2] 32)) w.heap.size (.slice ga gs.length gc) (.slice fa fs.length fc)):=Lib.hid (Lo.al (heap_alloc_new w _) _)
 have HO4:Hid (Lo ((w.alloc (.cells #[.slice ga gs.length gc,.slice fa fs.length fc] 32)).alloc (.cells #[.slice ga2 gs2.length gc2,.slice fa2 fs2.length fc2] 32)) (w.heap.size+1) (.slice ga2 gs2.length gc2) (.slice fa2 fs2.length fc2)):=Lib.hid (by
  have h:=heap_alloc_new (w.alloc (.cells #[.slice ga gs.length gc,.slice fa fs.length fc] 32)) (.cells #[.slice ga2 gs2.length gc2,.slice fa2 fs2.length fc2] 32)
  rw [show (w.alloc (.cells #[.slice ga gs.length gc,.slice fa fs.length fc] 32)).heap.size=w.heap.size+1 by simp] at h
  exact h)
 have HB1:Hid (Below w.heap.size w ((w.alloc (.cells #[.slice ga gs.length gc,.slice fa fs.length fc] 32)).alloc (.cells #[.slice ga2 gs2.length gc2,.slice fa2 fs2.length fc2] 32))):=Lib.hid ((below_alloc w _).alloc (by simp) _)
 obtain⟨n1,hn1e⟩ : ∃ x,gs.length=x:=⟨_,rfl⟩
 obtain⟨m1,hm1e⟩ : ∃ x,fs.length=x:=⟨_,rfl⟩
 obtain⟨n2,hn2e⟩ : ∃ x,gs2.length=x:=⟨_,rfl⟩
 obtain⟨m2,hm2e⟩ : ∃ x,fs2.length=x:=⟨_,rfl⟩
 have HN:=Lib.hid (And.intro hn1e (And.intro hm1e (And.intro hn2e hm2e)))
 rw [hn1e,hm1e] at HA
 rw [hn2e,hm2e] at HB
 rw [hn1e,hm1e,hn2e,hm2e] at HO3 HO4 HB1 ⊢
 rw [hn1e] at hn1
 rw [hm1e] at hn2
 clear hA hB hl1 hl2 hl3 hl4 hn1e hm1e hn2e hm2e
 go_enter Tryd.func16,Tryd.ntmps16
 go_upto_region 1 with fail
 obtain⟨w1,hw1⟩ : ∃ W,(w.alloc (.cells #[.slice ga n1 gc,.slice fa m1 fc] 32)).alloc (.cells #[.slice ga2 n2 gc2,.slice fa2 m2 fc2] 32)=W:=⟨_,rfl⟩
 obtain⟨g3,hg3⟩ : ∃ x,w.heap.size=x:=⟨_,rfl⟩
 (try rw [hw1])
 have HBW:Hid (∀ W,Below w1.heap.size w1 W->Below w.heap.size w W):=Lib.hid (fun W h=>by
  have h1:=HB1.out
  rw [hw1] at h1
  exact h1.trans (h.mono h1.size))
 have HA1:Hid (∀ W,Below w1.heap.size w1 W->SoAt W P gs fs (.slice ga n1 gc) (.slice fa m1 fc)):=Lib.hid (fun W h=>by
  have hb:=HBW.out W h
  exact HA.out.keep (fun b hP hlt=>⟨hb.block b hlt,hP⟩) hb.size)
 have HB2:Hid (∀ W,Below w1.heap.size w1 W->SoAt W Q gs2 fs2 (.slice ga2 n2 gc2) (.slice fa2 m2 fc2)):=Lib.hid (fun W h=>by
  have hb:=HBW.out W h
  exact HB.out.keep (fun b hP hlt=>⟨hb.block b hlt,hP⟩) hb.size)
 rw [hw1,hg3] at HO3 HO4
 (try rw [hg3])
 obtain⟨g4,hg4⟩ : ∃ x,g3+1=x:=⟨_,rfl⟩
 rw [hg4] at HO4
 (try rw [hg4])
 clear hw1 hg3 hg4 HB1 HA HB
 obtain⟨o0,o1⟩:=HO3.out.cells
 obtain⟨u0,u1⟩:=HO4.out.cells
 have hl3:=HO3.out.lt
 have hl4:=HO4.out.lt
 by_cases hnn:n1=n2
 rotate_left
 ·have d2:((n1:Int)==(n2:Int))=false:=by rw [beq_eq_false_iff_ne];omega
  have d3:((n1:Int) != (n2:Int))=true:=by rw [bne_iff_ne];omega
  have d4:(n1==n2)=false:=by rw [beq_eq_false_iff_ne];exact hnn
  have HX:Hid (eqSo lines gs fs gs2 fs2=false):=Lib.hid (by
   unfold eqSo
   have:gs≠gs2:=fun e=>hnn (by rw [<- HN.out.1,<- HN.out.2.2.1,e])
   simp [this])
  clear hnn
  go_wp2_with fail
  refine bodyPost_ret (v:=.bool false) (by simp [results,Tryd.results16,go_sem]) rfl ?_
  exact⟨by rw [HX.out],HBW.out _ (Below.refl _ _)⟩
 subst hnn
 by_cases hmm:m1=m2
 rotate_left
 ·have d2:((m1:Int)==(m2:Int))=false:=by rw [beq_eq_false_iff_ne];omega
  have d3:((m1:Int) != (m2:Int))=true:=by rw [bne_iff_ne];omega
  have d4:(m1==m2)=false:=by rw [beq_eq_false_iff_ne];exact hmm
  have HX:Hid (eqSo lines gs fs gs2 fs2=false):=Lib.hid (by
   unfold eqSo
   rw [eqFs_len (by rw [HN.out.2.1,HN.out.2.2.2];exact hmm)]
   simp)
  clear hmm
  go_wp2_with fail
  refine bodyPost_ret (v:=.bool false) (by simp [results,Tryd.results16,go_sem]) rfl ?_
  exact⟨by rw [HX.out],HBW.out _ (Below.refl _ _)⟩
 subst hmm
 go_upto_block 0 with fail
 clear o0 o1 u0 u1 hl3 hl4
 go_wp2_with fail
 go_loopw [7] (fun v7 wr => ∃ i:Nat,v7=.int .i64 (i:Int)/\i<=n1/\Hid (Below w1.heap.size w1 wr /\ ∀ j,j<i->gs[j]?=gs2[j]?)) (fun v7 _=>n1 - natOf v7)
 case atStart=>exact⟨0,rfl,Nat.zero_le _,Lib.hid ⟨Below.refl _ _,fun j h=>absurd h (Nat.not_lt_zero _)⟩⟩
 case round =>
  rename World=>wa
  obtain⟨i,rfl,hin,HL⟩:=hrel
  obtain⟨o0,o1⟩:=(HO3.out.be HL.out.1).cells
  obtain⟨u0,u1⟩:=(HO4.out.be HL.out.1).cells
  have hl3:=(HO3.out.be HL.out.1).lt
  have hl4:=(HO4.out.be HL.out.1).lt
  by_cases hlt:i<n1
  ·obtain⟨⟨xn,xz⟩,hx⟩ : ∃ x,gs[i]?=some x:=⟨_,List.getElem?_eq_getElem (by rw [HN.out.1];exact hlt)⟩
   obtain⟨⟨yn,yz⟩,hy⟩ : ∃ x,gs2[i]?=some x:=⟨_,List.getElem?_eq_getElem (by rw [HN.out.2.2.1];exact hlt)⟩
   obtain⟨b1,of1,rfl,hb1,p0,p1⟩:=(HA1.out wa HL.out.1).gg hx
   obtain⟨b2,of2,rfl,hb2,q0,q1⟩:=(HB2.out wa HL.out.1).gg hy
   have HXY:=Lib.hid (And.intro hx hy)
   (try dsimp only at p0 p1 q0 q1)
   have hlt2:(i:Int)<(n1:Int):=by omega
   have hi0:(0:Int)<=(i:Int):=by omega
   clear hx hy
   by_cases he:xn=yn/\xz=yz
   rotate_left
   ·have HX:Hid (eqSo lines gs fs gs2 fs2=false):=Lib.hid (by
     unfold eqSo
     have:gs≠gs2:=fun e=>he (by have h:=HXY.out;rw [e,h.2] at h;have h2:=h.1;injection h2 with h2;injection h2 with h3 h4;exact⟨h3.symm,h4.symm⟩)
     simp [this])
    have hq : ∀ W:World,(binOp .neq 62 (.agg #[.string (st xn),.int .i64 xz]) (.agg #[.string (st yn),.int .i64 yz])).run Tryd.prog W=.ok (.bool true) W:=fun W=>by
     rw [glob_neq]
     have:(xn==yn&&xz==yz)=false:=by
      cases h:(xn==yn&&xz==yz)
      ·rfl
      ·simp at h;exact absurd h he
     rw [this];rfl
    clear he
    go_upto_region 6 with fail
    refine wp_region_below (by kernel_rfl) (by kernel_rfl) ?_
    have r0 : ∀ x:Since wa,x.val.cell? ⟨g3,0,none⟩=some (.slice (some ⟨b1,of1,none⟩) n1 gc):=fun x=>x.cell o0
    have r1 : ∀ x:Since wa,x.val.cell? ⟨g4,0,none⟩=some (.slice (some ⟨b2,of2,none⟩) n1 gc2):=fun x=>x.cell u0
    have y0 : ∀ x:Since wa,x.val.cell? ⟨b1,of1+i * 2,none⟩=some (.string (st xn)):=fun x=>x.cell p0
    have y1 : ∀ x:Since wa,x.val.cell? ⟨b1,of1+i * 2+1,none⟩=some (.int .i64 xz):=fun x=>x.cell p1
    have z0 : ∀ x:Since wa,x.val.cell? ⟨b2,of2+i * 2,none⟩=some (.string (st yn)):=fun x=>x.cell q0
    have z1 : ∀ x:Since wa,x.val.cell? ⟨b2,of2+i * 2+1,none⟩=some (.int .i64 yz):=fun x=>x.cell q1
    repeat (go_big_quiet_step (fail))
    refine wpQuiet_nil ?_
    intro wb hbb
    have HBB:=Lib.hid hbb
    clear hbb r0 r1 y0 y1 z0 z1 hq
    go_wp2_with fail
    refine bodyPost_ret (v:=.bool false) (by simp [results,Tryd.results16,go_sem]) rfl ?_
    exact⟨by rw [HX.out],HBW.out _ (HL.out.1.trans (HBB.out.mono HL.out.1.size))⟩
   ·obtain⟨rfl,rfl⟩:=he
    have hq : ∀ W:World,(binOp .neq 62 (.agg #[.string (st xn),.int .i64 xz]) (.agg #[.string (st xn),.int .i64 xz])).run Tryd.prog W=.ok (.bool false) W:=fun W=>by
     rw [glob_neq];simp
    go_upto_region 6 with fail
    refine wp_region_below (by kernel_rfl) (by kernel_rfl) ?_
    have r0 : ∀ x:Since wa,x.val.cell? ⟨g3,0,none⟩=some (.slice (some ⟨b1,of1,none⟩) n1 gc):=fun x=>x.cell o0
    have r1 : ∀ x:Since wa,x.val.cell? ⟨g4,0,none⟩=some (.slice (some ⟨b2,of2,none⟩) n1 gc2):=fun x=>x.cell u0
    have y0 : ∀ x:Since wa,x.val.cell? ⟨b1,of1+i * 2,none⟩=some (.string (st xn)):=fun x=>x.cell p0
    have y1 : ∀ x:Since wa,x.val.cell? ⟨b1,of1+i * 2+1,none⟩=some (.int .i64 xz):=fun x=>x.cell p1
    have z0 : ∀ x:Since wa,x.val.cell? ⟨b2,of2+i * 2,none⟩=some (.string (st xn)):=fun x=>x.cell q0
    have z1 : ∀ x:Since wa,x.val.cell? ⟨b2,of2+i * 2+1,none⟩=some (.int .i64 xz):=fun x=>x.cell q1
    repeat (go_big_quiet_step (fail))
    refine wpQuiet_nil ?_
    intro wb hbb
    have HBB:=Lib.hid hbb
    clear hbb r0 r1 y0 y1 z0 z1 hq
    go_wp2_with fail
    go_roundw
    case rel=>exact⟨i+1,by go_num,by omega,Lib.hid ⟨HL.out.1.trans (HBB.out.mono HL.out.1.size),fun j hj=>by
     by_cases e:j=i
     ·rw [e,HXY.out.1,HXY.out.2]
     ·exact HL.out.2 j (by omega)⟩⟩
    case measure=>simp [natOf];omega
  ·have HGG:Hid (gs=gs2):=Lib.hid (List.ext_getElem? (fun j=>by
    by_cases h:j<n1
    ·exact HL.out.2 j (by omega)
    ·rw [List.getElem?_eq_none (by rw [HN.out.1];omega),List.getElem?_eq_none (by rw [HN.out.2.2.1];omega)]))
   have HEQ:Hid (∀ b,eqFs lines fs fs2=b->eqSo lines gs fs gs2 fs2=b):=Lib.hid (fun b h=>by unfold eqSo;rw [h];simp [HGG.out])
   have HB0:=Lib.hid HL.out.1
   have dl:decide (i<n1)=false:=decide_eq_false hlt
   have dl2:decide ((i:Int)<(n1:Int))=false:=decide_eq_false (by omega)
   clear HL HGG hin hlt
   go_upto_block 2 with fail
   clear o0 o1 u0 u1 hl3 hl4 dl dl2
   go_wp2_with fail
   go_loopw [8,9,10,11] (fun v8 _ _ _ wr => ∃ i:Nat,v8=.int .i64 (i:Int)/\i<=m1/\Hid (Below w1.heap.size w1 wr/\eqFs lines fs fs2=eqFs lines (fs.drop i) (fs2.drop i))) (fun v8 _ _ _ _=>m1 - natOf v8)
   case atStart=>exact⟨0,rfl,Nat.zero_le _,Lib.hid ⟨HB0.out,rfl⟩⟩
   case round =>
    rename World=>wc
    obtain⟨i2,rfl,hin,HL⟩:=hrel
    obtain⟨o0,o1⟩:=(HO3.out.be HL.out.1).cells
    obtain⟨u0,u1⟩:=(HO4.out.be HL.out.1).cells
    have hl3:=(HO3.out.be HL.out.1).lt
    have hl4:=(HO4.out.be HL.out.1).lt
    by_cases hlt:i2<m1
    ·obtain⟨⟨fn1,fl1,fp1,fS1⟩,hx⟩ : ∃ x,fs[i2]?=some x:=⟨_,List.getElem?_eq_getElem (by rw [HN.out.2.1];exact hlt)⟩
     obtain⟨⟨fn2,fl2,fp2,fS2⟩,hy⟩ : ∃ x,fs2[i2]?=some x:=⟨_,List.getElem?_eq_getElem (by rw [HN.out.2.2.2];exact hlt)⟩
     have HQ:Hid (eqFs lines fs fs2=(eqFu lines ⟨fn1,fl1,fp1,fS1⟩ ⟨fn2,fl2,fp2,fS2⟩&&eqFs lines (fs.drop (i2+1)) (fs2.drop (i2+1)))):=Lib.hid (by rw [HL.out.2,eqFs_drop hx hy])
     obtain⟨b1,of1,ap1,cp1,ab1,cb1,rfl,hb1,hP1,hS1,p0,p1,p2,p3⟩:=(HA1.out wc HL.out.1).gf hx
     obtain⟨b2,of2,ap2,cp2,ab2,cb2,rfl,hb2,hP2,hS2,q0,q1,q2,q3⟩:=(HB2.out wc HL.out.1).gf hy
     (try dsimp only at p0 p1 p2 p3 q0 q1 q2 q3 hP1 hS1 hP2 hS2)
     obtain⟨np1,hnp1⟩ : ∃ x,fp1.length=x:=⟨_,rfl⟩
     obtain⟨np2,hnp2⟩ : ∃ x,fp2.length=x:=⟨_,rfl⟩
     obtain⟨nb1,hnb1⟩ : ∃ x,fS1.len=x:=⟨_,rfl⟩
     obtain⟨nb2,hnb2⟩ : ∃ x,fS2.len=x:=⟨_,rfl⟩
     have HNP:=Lib.hid (And.intro hnp1 hnp2)
     have HNL:Hid (np1<=9223372036854775807):=Lib.hid (by obtain⟨_,_,_,h1,h2,_⟩:=hP1;unfold maxLen at h2;omega)
     rw [hnp1] at p2 hP1
     rw [hnp2] at q2 hP2
     rw [hnb1] at p3 hS1
     rw [hnb2] at q3 hS2
     have HP:=Lib.hid (And.intro hP1 hP2)
     have HSS:=Lib.hid (And.intro hS1 hS2)
     have HBK:=Lib.hid (And.intro hb1 hb2)
     have hlt2:(i2:Int)<(m1:Int):=by omega
     have hi0:(0:Int)<=(i2:Int):=by omega
     clear hx hy hP1 hP2 hS1 hS2 hnp1 hnp2 hnb1 hnb2 hb1 hb2
     go_upto_region 11 with fail
     go_cut [9,10] from 53 to 62 (fun v9 v10 wx => ∃ g8 g9:Nat,v9=.pointer (some ⟨g8,0,none⟩)/\v10=.pointer (some ⟨g9,0,none⟩)/\Hid (Below wc.heap.size wc wx/\Lf wx g8 fn1 fl1 (.slice ap1 np1 cp1) (.slice ab1 nb1 cb1)/\Lf wx g9 fn2 fl2 (.slice ap2 np2 cp2) (.slice ab2 nb2 cb2)))
     case first =>
      obtain⟨wd,hwd⟩ : ∃ W,wc.drew=W:=⟨_,rfl⟩
      have hbd:Below wc.heap.size wc wd:=by rw [<- hwd];exact(Below.refl _ _).drew
      have HBD:=Lib.hid hbd
      have HSZ:Hid (g3<wd.heap.size/\g4<wd.heap.size/\b1<wd.heap.size/\b2<wd.heap.size/\wc.heap.size<=wd.heap.size):=Lib.hid (by have:=hbd.size;have:=HBK.out;exact⟨by omega,by omega,by omega,by omega,by omega⟩)
      refine wp_region_held_drew (S:=(fun w'=>w'.cell? ⟨g3,1,none⟩=some (.slice (some ⟨b1,of1,none⟩) m1 fc)/\w'.cell? ⟨g4,1,none⟩=some (.slice (some ⟨b2,of2,none⟩) m1 fc2)/\w'.cell? ⟨b1,of1+i2 * 4,none⟩=some (.string (st fn1))/\w'.cell? ⟨b1,of1+i2 * 4+1,none⟩=some (.int .i64 fl1)/\w'.cell? ⟨b1,of1+i2 * 4+2,none⟩=some (.slice ap1 np1 cp1)/\w'.cell? ⟨b1,of1+i2 * 4+3,none⟩=some (.slice ab1 nb1 cb1)/\w'.cell? ⟨b2,of2+i2 * 4,none⟩=some (.string (st fn2))/\w'.cell? ⟨b2,of2+i2 * 4+1,none⟩=some (.int .i64 fl2)/\w'.cell? ⟨b2,of2+i2 * 4+2,none⟩=some (.slice ap2 np2 cp2)/\w'.cell? ⟨b2,of2+i2 * 4+3,none⟩=some (.slice ab2 nb2 cb2))) (by kernel_rfl) (by rw [hwd];exact⟨by rw [<- hwd];exact o1,by rw [<- hwd];exact u1,by rw [<- hwd];exact p0,by rw [<- hwd];exact p1,by rw [<- hwd];exact p2,by rw [<- hwd];exact p3,by rw [<- hwd];exact q0,by rw [<- hwd];exact q1,by rw [<- hwd];exact q2,by rw [<- hwd];exact q3⟩) (fun hHeld=>?_)
      rw [hwd] at hHeld ⊢
      clear hwd hbd o0 o1 u0 u1 p0 p1 p2 p3 q0 q1 q2 q3 hl3 hl4
      refine tkH 0 53 ?_
      refine tkH 1 54 ?_
      refine tkH 2 55 ?_
      refine tkH 3 56 ?_
      refine tkH 4 57 ?_
      refine tkH 5 58 ?_
      refine tkH 6 59 ?_
      refine tkH 7 60 ?_
      refine tkH 8 61 ?_
      refine tkH 9 62 ?_
      refine wpAnyH_ready (rs:=[10,11]) (by kernel_rfl) (by simp) ?_
      refine AllReadyH.cons rfl (fun K hK=>?_) (AllReadyH.cons rfl (fun K hK=>?_) AllReadyH.nil)
      ·go_simp
       refine goH hK ⟨cell_ml _ hHeld.1,cell_ml _ hHeld.2.1,cell_ml _ hHeld.2.2.1,cell_ml _ hHeld.2.2.2.1,cell_ml _ hHeld.2.2.2.2.1,cell_ml _ hHeld.2.2.2.2.2.1,cell_ml _ hHeld.2.2.2.2.2.2.1,cell_ml _ hHeld.2.2.2.2.2.2.2.1,cell_ml _ hHeld.2.2.2.2.2.2.2.2.1,cell_ml _ hHeld.2.2.2.2.2.2.2.2.2⟩ fun hHeld=>?_
       clear hK K
       obtain⟨wA,hw2⟩ : ∃ W,wd.alloc (.cells #[.string { data := #[] },.int .i64 0,.slice none 0 0,.slice none 0 0] 66)=W:=⟨_,rfl⟩
       obtain⟨g8,hg⟩ : ∃ x,wd.heap.size=x:=⟨_,rfl⟩
       have hng8:=heap_alloc_new wd (.cells #[.string { data := #[] },.int .i64 0,.slice none 0 0,.slice none 0 0] 66)
       have hbg8:=below_alloc wd (.cells #[.string { data := #[] },.int .i64 0,.slice none 0 0,.slice none 0 0] 66)
       rw [hw2] at hng8 hbg8 hHeld ⊢
       rw [hg] at hng8
       have hlg8:wd.heap.size<=g8:=by omega
       (try rw [hg])
       have hsg8:=hbg8.size
       clear hw2 hg
       refine rdH 11 fun K hK=>?_
       go_simp
       refine goH hK ⟨cell_ml _ hHeld.1,cell_ml _ hHeld.2.1,cell_ml _ hHeld.2.2.1,cell_ml _ hHeld.2.2.2.1,cell_ml _ hHeld.2.2.2.2.1,cell_ml _ hHeld.2.2.2.2.2.1,cell_ml _ hHeld.2.2.2.2.2.2.1,cell_ml _ hHeld.2.2.2.2.2.2.2.1,cell_ml _ hHeld.2.2.2.2.2.2.2.2.1,cell_ml _ hHeld.2.2.2.2.2.2.2.2.2⟩ fun hHeld=>?_
       clear hK K
       obtain⟨wB,hw2⟩ : ∃ W,wA.alloc (.cells #[.string { data := #[] },.int .i64 0,.slice none 0 0,.slice none 0 0] 66)=W:=⟨_,rfl⟩
       obtain⟨g9,hg⟩ : ∃ x,wA.heap.size=x:=⟨_,rfl⟩
       have hng9:=heap_alloc_new wA (.cells #[.string { data := #[] },.int .i64 0,.slice none 0 0,.slice none 0 0] 66)
       have hbg9:=below_alloc wA (.cells #[.string { data := #[] },.int .i64 0,.slice none 0 0,.slice none 0 0] 66)
       rw [hw2] at hng9 hbg9 hHeld ⊢
       rw [hg] at hng9
       have hlg9:wA.heap.size<=g9:=by omega
       (try rw [hg])
       have hsg9:=hbg9.size
       clear hw2 hg
       have hsz:=HSZ.out
       have H_g8:=(hbg9.block g8 (heap_lt hng8)).trans hng8
       have H_g9:=hng9
       have HBB:=(HBD.out.trans (hbg8.mono HBD.out.size)).trans (hbg9.mono (by omega))
       have N89:g8≠g9:=by have:=heap_lt hng8;omega
       have hw8:wc.heap.size<=g8:=by omega
       have hw9:wc.heap.size<=g9:=by omega
       have Ng8g3:g8≠g3:=by omega
       have Ng8g4:g8≠g4:=by omega
       have Ng8b1:g8≠b1:=by omega
       have Ng8b2:g8≠b2:=by omega
       have Ng9g3:g9≠g3:=by omega
       have Ng9g4:g9≠g4:=by omega
       have Ng9b1:g9≠b1:=by omega
       have Ng9b2:g9≠b2:=by omega
       clear hng8 hng9 hbg8 hbg9
       refine rdH 12 fun K hK=>?_
       have c0:=cell_of_row _ _ 0 _ _ _ H_g8
       have c1:=cell_of_row _ _ 1 _ _ _ H_g8
       have c2:=cell_of_row _ _ 2 _ _ _ H_g8
       have c3:=cell_of_row _ _ 3 _ _ _ H_g8
       have f0:=frozen_of_row _ g8 0 _ _ H_g8
       have f1:=frozen_of_row _ g8 1 _ _ H_g8
       have f2:=frozen_of_row _ g8 2 _ _ H_g8
       have f3:=frozen_of_row _ g8 3 _ _ H_g8
       have jl8:=heap_lt H_g8
       go_simp
       refine goH hK ⟨cell_set4 (Ng8g3) hHeld.1,cell_set4 (Ng8g4) hHeld.2.1,cell_set4 (Ng8b1) hHeld.2.2.1,cell_set4 (Ng8b1) hHeld.2.2.2.1,cell_set4 (Ng8b1) hHeld.2.2.2.2.1,cell_set4 (Ng8b1) hHeld.2.2.2.2.2.1,cell_set4 (Ng8b2) hHeld.2.2.2.2.2.2.1,cell_set4 (Ng8b2) hHeld.2.2.2.2.2.2.2.1,cell_set4 (Ng8b2) hHeld.2.2.2.2.2.2.2.2.1,cell_set4 (Ng8b2) hHeld.2.2.2.2.2.2.2.2.2⟩ fun hHeld=>?_
       clear hK K
       have e8:=heap_set4 (v0:=.string (st fn1)) (v1:=.int .i64 fl1) (v2:=.slice ap1 np1 cp1) (v3:=.slice ab1 nb1 cb1) H_g8
       have e9:=(set4_far2 wB (v0:=.string (st fn1)) (v1:=.int .i64 fl1) (v2:=.slice ap1 np1 cp1) (v3:=.slice ab1 nb1 cb1) N89).trans H_g9
       have eb:=below_set4 (v0:=.string (st fn1)) (v1:=.int .i64 fl1) (v2:=.slice ap1 np1 cp1) (v3:=.slice ab1 nb1 cb1) HBB (show wc.heap.size<=g8 from hw8)
       obtain⟨wF,hwF⟩ : ∃ W,set4 wB g8 (.string (st fn1)) (.int .i64 fl1) (.slice ap1 np1 cp1) (.slice ab1 nb1 cb1)=W:=⟨_,rfl⟩
       have hwF2:=hwF
       unfold set4 at hwF2
       rw [hwF2] at hHeld ⊢
       rw [hwF] at e8 e9 eb
       clear hwF hwF2 c0 c1 c2 c3 f0 f1 f2 f3 jl8 H_g8 H_g9 HBB
       refine rdH 13 fun K hK=>?_
       have c0:=cell_of_row _ _ 0 _ _ _ e9
       have c1:=cell_of_row _ _ 1 _ _ _ e9
       have c2:=cell_of_row _ _ 2 _ _ _ e9
       have c3:=cell_of_row _ _ 3 _ _ _ e9
       have f0:=frozen_of_row _ g9 0 _ _ e9
       have f1:=frozen_of_row _ g9 1 _ _ e9
       have f2:=frozen_of_row _ g9 2 _ _ e9
       have f3:=frozen_of_row _ g9 3 _ _ e9
       have jl8:=heap_lt e9
       go_simp
       refine goH hK ⟨cell_set4 (Ng9g3) hHeld.1,cell_set4 (Ng9g4) hHeld.2.1,cell_set4 (Ng9b1) hHeld.2.2.1,cell_set4 (Ng9b1) hHeld.2.2.2.1,cell_set4 (Ng9b1) hHeld.2.2.2.2.1,cell_set4 (Ng9b1) hHeld.2.2.2.2.2.1,cell_set4 (Ng9b2) hHeld.2.2.2.2.2.2.1,cell_set4 (Ng9b2) hHeld.2.2.2.2.2.2.2.1,cell_set4 (Ng9b2) hHeld.2.2.2.2.2.2.2.2.1,cell_set4 (Ng9b2) hHeld.2.2.2.2.2.2.2.2.2⟩ fun hHeld=>?_
       clear hK K
       refine wpAnyH_done (by kernel_rfl) ?_ _
       (try simp only [Act.put,List.setIfInBounds_toArray,List.set_cons_zero,List.set_cons_succ])
       have s9:=heap_set4 (v0:=.string (st fn2)) (v1:=.int .i64 fl2) (v2:=.slice ap2 np2 cp2) (v3:=.slice ab2 nb2 cb2) e9
       have s8:=(set4_far2 wF (v0:=.string (st fn2)) (v1:=.int .i64 fl2) (v2:=.slice ap2 np2 cp2) (v3:=.slice ab2 nb2 cb2) (Ne.symm N89)).trans e8
       have sb:=below_set4 (v0:=.string (st fn2)) (v1:=.int .i64 fl2) (v2:=.slice ap2 np2 cp2) (v3:=.slice ab2 nb2 cb2) eb (show wc.heap.size<=g9 from hw9)
       obtain⟨wG,hwG⟩ : ∃ W,set4 wF g9 (.string (st fn2)) (.int .i64 fl2) (.slice ap2 np2 cp2) (.slice ab2 nb2 cb2)=W:=⟨_,rfl⟩
       have hwG2:=hwG
       unfold set4 at hwG2
       rw [hwG2]
       rw [hwG] at s8 s9 sb
       clear hwG hwG2 c0 c1 c2 c3 f0 f1 f2 f3 jl8 e8 e9 eb hHeld
       go_wp2_with fail
       go_meet
       exact⟨g8,g9,rfl,rfl,Lib.hid ⟨sb,s8,s9⟩⟩
      ·go_simp
       refine goH hK ⟨cell_ml _ hHeld.1,cell_ml _ hHeld.2.1,cell_ml _ hHeld.2.2.1,cell_ml _ hHeld.2.2.2.1,cell_ml _ hHeld.2.2.2.2.1,cell_ml _ hHeld.2.2.2.2.2.1,cell_ml _ hHeld.2.2.2.2.2.2.1,cell_ml _ hHeld.2.2.2.2.2.2.2.1,cell_ml _ hHeld.2.2.2.2.2.2.2.2.1,cell_ml _ hHeld.2.2.2.2.2.2.2.2.2⟩ fun hHeld=>?_
       clear hK K
       obtain⟨wA,hw2⟩ : ∃ W,wd.alloc (.cells #[.string { data := #[] },.int .i64 0,.slice none 0 0,.slice none 0 0] 66)=W:=⟨_,rfl⟩
       obtain⟨g9,hg⟩ : ∃ x,wd.heap.size=x:=⟨_,rfl⟩
       have hng9:=heap_alloc_new wd (.cells #[.string { data := #[] },.int .i64 0,.slice none 0 0,.slice none 0 0] 66)
       have hbg9:=below_alloc wd (.cells #[.string { data := #[] },.int .i64 0,.slice none 0 0,.slice none 0 0] 66)
       rw [hw2] at hng9 hbg9 hHeld ⊢
       rw [hg] at hng9
       have hlg9:wd.heap.size<=g9:=by omega
       (try rw [hg])
       have hsg9:=hbg9.size
       clear hw2 hg
       refine rdH 10 fun K hK=>?_
       go_simp
       refine goH hK ⟨cell_ml _ hHeld.1,cell_ml _ hHeld.2.1,cell_ml _ hHeld.2.2.1,cell_ml _ hHeld.2.2.2.1,cell_ml _ hHeld.2.2.2.2.1,cell_ml _ hHeld.2.2.2.2.2.1,cell_ml _ hHeld.2.2.2.2.2.2.1,cell_ml _ hHeld.2.2.2.2.2.2.2.1,cell_ml _ hHeld.2.2.2.2.2.2.2.2.1,cell_ml _ hHeld.2.2.2.2.2.2.2.2.2⟩ fun hHeld=>?_
       clear hK K
       obtain⟨wB,hw2⟩ : ∃ W,wA.alloc (.cells #[.string { data := #[] },.int .i64 0,.slice none 0 0,.slice none 0 0] 66)=W:=⟨_,rfl⟩
       obtain⟨g8,hg⟩ : ∃ x,wA.heap.size=x:=⟨_,rfl⟩
       have hng8:=heap_alloc_new wA (.cells #[.string { data := #[] },.int .i64 0,.slice none 0 0,.slice none 0 0] 66)
       have hbg8:=below_alloc wA (.cells #[.string { data := #[] },.int .i64 0,.slice none 0 0,.slice none 0 0] 66)
       rw [hw2] at hng8 hbg8 hHeld ⊢
       rw [hg] at hng8
       have hlg8:wA.heap.size<=g8:=by omega
       (try rw [hg])
       have hsg8:=hbg8.size
       clear hw2 hg
       have hsz:=HSZ.out
       have H_g9:=(hbg8.block g9 (heap_lt hng9)).trans hng9
       have H_g8:=hng8
       have HBB:=(HBD.out.trans (hbg9.mono HBD.out.size)).trans (hbg8.mono (by omega))
       have N89:g8≠g9:=by have:=heap_lt hng9;omega
       have hw8:wc.heap.size<=g8:=by omega
       have hw9:wc.heap.size<=g9:=by omega
       have Ng8g3:g8≠g3:=by omega
       have Ng8g4:g8≠g4:=by omega
       have Ng8b1:g8≠b1:=by omega
       have Ng8b2:g8≠b2:=by omega
       have Ng9g3:g9≠g3:=by omega
       have Ng9g4:g9≠g4:=by omega
       have Ng9b1:g9≠b1:=by omega
       have Ng9b2:g9≠b2:=by omega
       clear hng9 hng8 hbg9 hbg8
       refine rdH 12 fun K hK=>?_
       have c0:=cell_of_row _ _ 0 _ _ _ H_g8
       have c1:=cell_of_row _ _ 1 _ _ _ H_g8
       have c2:=cell_of_row _ _ 2 _ _ _ H_g8
       have c3:=cell_of_row _ _ 3 _ _ _ H_g8
       have f0:=frozen_of_row _ g8 0 _ _ H_g8
       have f1:=frozen_of_row _ g8 1 _ _ H_g8
       have f2:=frozen_of_row _ g8 2 _ _ H_g8
       have f3:=frozen_of_row _ g8 3 _ _ H_g8
       have jl8:=heap_lt H_g8
       go_simp
       refine goH hK ⟨cell_set4 (Ng8g3) hHeld.1,cell_set4 (Ng8g4) hHeld.2.1,cell_set4 (Ng8b1) hHeld.2.2.1,cell_set4 (Ng8b1) hHeld.2.2.2.1,cell_set4 (Ng8b1) hHeld.2.2.2.2.1,cell_set4 (Ng8b1) hHeld.2.2.2.2.2.1,cell_set4 (Ng8b2) hHeld.2.2.2.2.2.2.1,cell_set4 (Ng8b2) hHeld.2.2.2.2.2.2.2.1,cell_set4 (Ng8b2) hHeld.2.2.2.2.2.2.2.2.1,cell_set4 (Ng8b2) hHeld.2.2.2.2.2.2.2.2.2⟩ fun hHeld=>?_
       clear hK K
       have e8:=heap_set4 (v0:=.string (st fn1)) (v1:=.int .i64 fl1) (v2:=.slice ap1 np1 cp1) (v3:=.slice ab1 nb1 cb1) H_g8
       have e9:=(set4_far2 wB (v0:=.string (st fn1)) (v1:=.int .i64 fl1) (v2:=.slice ap1 np1 cp1) (v3:=.slice ab1 nb1 cb1) N89).trans H_g9
       have eb:=below_set4 (v0:=.string (st fn1)) (v1:=.int .i64 fl1) (v2:=.slice ap1 np1 cp1) (v3:=.slice ab1 nb1 cb1) HBB (show wc.heap.size<=g8 from hw8)
       obtain⟨wF,hwF⟩ : ∃ W,set4 wB g8 (.string (st fn1)) (.int .i64 fl1) (.slice ap1 np1 cp1) (.slice ab1 nb1 cb1)=W:=⟨_,rfl⟩
       have hwF2:=hwF
       unfold set4 at hwF2
       rw [hwF2] at hHeld ⊢
       rw [hwF] at e8 e9 eb
       clear hwF hwF2 c0 c1 c2 c3 f0 f1 f2 f3 jl8 H_g8 H_g9 HBB
       refine rdH 13 fun K hK=>?_
       have c0:=cell_of_row _ _ 0 _ _ _ e9
       have c1:=cell_of_row _ _ 1 _ _ _ e9
       have c2:=cell_of_row _ _ 2 _ _ _ e9
       have c3:=cell_of_row _ _ 3 _ _ _ e9
       have f0:=frozen_of_row _ g9 0 _ _ e9
       have f1:=frozen_of_row _ g9 1 _ _ e9
       have f2:=frozen_of_row _ g9 2 _ _ e9
       have f3:=frozen_of_row _ g9 3 _ _ e9
       have jl8:=heap_lt e9
       go_simp
       refine goH hK ⟨cell_set4 (Ng9g3) hHeld.1,cell_set4 (Ng9g4) hHeld.2.1,cell_set4 (Ng9b1) hHeld.2.2.1,cell_set4 (Ng9b1) hHeld.2.2.2.1,cell_set4 (Ng9b1) hHeld.2.2.2.2.1,cell_set4 (Ng9b1) hHeld.2.2.2.2.2.1,cell_set4 (Ng9b2) hHeld.2.2.2.2.2.2.1,cell_set4 (Ng9b2) hHeld.2.2.2.2.2.2.2.1,cell_set4 (Ng9b2) hHeld.2.2.2.2.2.2.2.2.1,cell_set4 (Ng9b2) hHeld.2.2.2.2.2.2.2.2.2⟩ fun hHeld=>?_
       clear hK K
       refine wpAnyH_done (by kernel_rfl) ?_ _
       (try simp only [Act.put,List.setIfInBounds_toArray,List.set_cons_zero,List.set_cons_succ])
       have s9:=heap_set4 (v0:=.string (st fn2)) (v1:=.int .i64 fl2) (v2:=.slice ap2 np2 cp2) (v3:=.slice ab2 nb2 cb2) e9
       have s8:=(set4_far2 wF (v0:=.string (st fn2)) (v1:=.int .i64 fl2) (v2:=.slice ap2 np2 cp2) (v3:=.slice ab2 nb2 cb2) (Ne.symm N89)).trans e8
       have sb:=below_set4 (v0:=.string (st fn2)) (v1:=.int .i64 fl2) (v2:=.slice ap2 np2 cp2) (v3:=.slice ab2 nb2 cb2) eb (show wc.heap.size<=g9 from hw9)
       obtain⟨wG,hwG⟩ : ∃ W,set4 wF g9 (.string (st fn2)) (.int .i64 fl2) (.slice ap2 np2 cp2) (.slice ab2 nb2 cb2)=W:=⟨_,rfl⟩
       have hwG2:=hwG
       unfold set4 at hwG2
       rw [hwG2]
       rw [hwG] at s8 s9 sb
       clear hwG hwG2 c0 c1 c2 c3 f0 f1 f2 f3 jl8 e8 e9 eb hHeld
       go_wp2_with fail
       go_meet
       exact⟨g8,g9,rfl,rfl,Lib.hid ⟨sb,s8,s9⟩⟩
     case rest =>
     rename World=>wq
     obtain⟨g8,g9,rfl,rfl,HC⟩:=hcut
     clear o0 o1 u0 u1 p0 p1 p2 p3 q0 q1 q2 q3 hl3 hl4
     have HBX:Hid (∀ W,Below wq.heap.size wq W->Below w1.heap.size w1 W):=Lib.hid (fun W h=>by
      have h1:=HC.out.1.trans (h.mono HC.out.1.size)
      exact HL.out.1.trans (h1.mono HL.out.1.size))
     obtain⟨p0,p1,p2,p3⟩:=HC.out.2.1.cells
     obtain⟨q0,q1,q2,q3⟩:=HC.out.2.2.cells
     have hl8:=HC.out.2.1.lt
     have hl9:=HC.out.2.2.lt
     have HQ2:Hid (eqFu lines ⟨fn1,fl1,fp1,fS1⟩ ⟨fn2,fl2,fp2,fS2⟩=false->eqFs lines fs fs2=false):=Lib.hid (fun h=>by rw [HQ.out,h];rfl)
     by_cases en:fn1=fn2
     rotate_left
     ·have d1:(fn1==fn2)=false:=beq_eq_false_iff_ne.2 en
      have d2:(fn1 != fn2)=true:=bne_iff_ne.2 en
      have HX:Hid (eqFs lines fs fs2=false):=Lib.hid (HQ2.out (by unfold eqFu;rw [d1];rfl))
      clear en
      go_wp2_with fail
      refine bodyPost_ret (v:=.bool false) (by simp [results,Tryd.results16,go_sem]) rfl ?_
      exact⟨by rw [HEQ.out _ HX.out],HBW.out _ (HBX.out _ (Below.refl _ _))⟩
     subst en
     obtain⟨bl,hbl⟩ : ∃ b,(!lines||fl1==fl2)=b:=⟨_,rfl⟩
     have HBL:=Lib.hid hbl
     cases bl
     ·have HX:Hid (eqFs lines fs fs2=false):=Lib.hid (HQ2.out (by unfold eqFu;simp only [HBL.out];simp))
      obtain⟨rfl,el⟩:lines=true/\fl1≠fl2:=by
       cases lines
       ·simp at hbl
       ·simp at hbl;exact⟨rfl,hbl⟩
      have d1:(fl1==fl2)=false:=beq_eq_false_iff_ne.2 el
      have d2:(fl1 != fl2)=true:=bne_iff_ne.2 el
      clear el hbl
      go_wp2_with fail
      refine bodyPost_ret (v:=.bool false) (by simp [results,Tryd.results16,go_sem]) rfl ?_
      exact⟨by rw [HEQ.out _ HX.out],HBW.out _ (HBX.out _ (Below.refl _ _))⟩
     have hll:lines=false\/(lines=true/\fl1=fl2):=by
      cases lines
      ·exact .inl rfl
      ·simp at hbl;exact .inr ⟨rfl,hbl⟩
     clear hbl
     have HQ3:Hid (eqFu lines ⟨fn1,fl1,fp1,fS1⟩ ⟨fn1,fl2,fp2,fS2⟩=(fp1==fp2&&eqS lines fS1 fS2)):=Lib.hid (by unfold eqFu;simp only [HBL.out];simp)
     by_cases enp:np1=np2
     rotate_left
     ·have d2:((np1:Int)==(np2:Int))=false:=by rw [beq_eq_false_iff_ne];omega
      have d3:((np1:Int) != (np2:Int))=true:=by rw [bne_iff_ne];omega
      have d4:(np1==np2)=false:=by rw [beq_eq_false_iff_ne];exact enp
      have HX:Hid (eqFs lines fs fs2=false):=Lib.hid (HQ2.out (by
       rw [HQ3.out]
       have:(fp1==fp2)=false:=by
        rw [beq_eq_false_iff_ne]
        intro e
        exact enp (by rw [<- HNP.out.1,<- HNP.out.2,e])
       rw [this];rfl))
      clear enp
      rcases hll with rfl | ⟨rfl,rfl⟩
      ·go_wp2_with fail
       refine bodyPost_ret (v:=.bool false) (by simp [results,Tryd.results16,go_sem]) rfl ?_
       exact⟨by rw [HEQ.out _ HX.out],HBW.out _ (HBX.out _ (Below.refl _ _))⟩
      ·go_wp2_with fail
       refine bodyPost_ret (v:=.bool false) (by simp [results,Tryd.results16,go_sem]) rfl ?_
       exact⟨by rw [HEQ.out _ HX.out],HBW.out _ (HBX.out _ (Below.refl _ _))⟩
     subst enp
     have HPQ:Hid (∀ W,Below wq.heap.size wq W->PsAt W P fp1 (.slice ap1 np1 cp1)/\PsAt W Q fp2 (.slice ap2 np1 cp2)):=Lib.hid (fun W h=>by
      have h1:=HC.out.1.trans (h.mono HC.out.1.size)
      exact⟨HP.out.1.keep (fun b hP hlt=>⟨h1.block b hlt,hP⟩) h1.size,HP.out.2.keep (fun b hP hlt=>⟨h1.block b hlt,hP⟩) h1.size⟩)
     have HCS:Hid (Calls Tryd.prog 27 #[.slice ab1 nb1 cb1,.slice ab2 nb2 cb2,.bool lines] wq fun e w'=>e=.returned (.bool (eqS lines fS1 fS2))/\Below wq.heap.size wq w'):=Lib.hid (by
      have h1:=HC.out.1
      exact stmts_any fS1 lines P Q fS2 _ _ wq (HSS.out.1.keep (fun b hP hlt=>⟨h1.block b hlt,hP⟩) h1.size) (HSS.out.2.keep (fun b hP hlt=>⟨h1.block b hlt,hP⟩) h1.size))
     obtain⟨bs,hbs⟩ : ∃ b,eqS lines fS1 fS2=b:=⟨_,rfl⟩
     have HBS:=Lib.hid hbs
     rw [hbs] at HCS
     clear hbs
     go_upto_region 12 with fail
     go_cut [95] from 63 to 95 (fun v95 wx=>v95=.bool (!bs)/\Hid (Below wq.heap.size wq wx))
     case first =>
      rcases hll with rfl | ⟨rfl,rfl⟩
      ·go_wp2_with fail
       refine HCS.out.mono ?_
       rintro e w5 ⟨rfl,hb5⟩
       have HB5:=Lib.hid hb5
       clear hb5
       go_wp2_with fail
       go_meet
       exact⟨by first | rfl | simp,HB5⟩
      ·go_wp2_with fail
       refine HCS.out.mono ?_
       rintro e w5 ⟨rfl,hb5⟩
       have HB5:=Lib.hid hb5
       clear hb5
       go_wp2_with fail
       go_meet
       exact⟨by first | rfl | simp,HB5⟩
     case rest =>
     rename World=>wv
     obtain⟨rfl,HB5⟩:=hcut
     cases bs
     ·have HX:Hid (eqFs lines fs fs2=false):=Lib.hid (HQ2.out (by rw [HQ3.out,HBS.out];simp))
      go_wp2_with fail
      refine bodyPost_ret (v:=.bool false) (by simp [results,Tryd.results16,go_sem]) rfl ?_
      exact⟨by rw [HEQ.out _ HX.out],HBW.out _ (HBX.out _ HB5.out)⟩
     clear p0 p1 p2 p3 q0 q1 q2 q3 hl8 hl9 HCS
     go_upto_block 4 with fail
     go_wp2_with fail
     go_loopw [11] (fun v11 wr => ∃ k:Nat,v11=.int .i64 (k:Int)/\k<=np1/\Hid (Below wq.heap.size wq wr /\ ∀ j,j<k->fp1[j]?=fp2[j]?)) (fun v11 _=>np1 - natOf v11)
     case atStart=>exact⟨0,rfl,Nat.zero_le _,Lib.hid ⟨HB5.out,fun j h=>absurd h (Nat.not_lt_zero _)⟩⟩
     case round =>
      rename World=>we
      obtain⟨k,rfl,hkn,HK⟩:=hrel
      obtain⟨p0,p1,p2,p3⟩:=(HC.out.2.1.be HK.out.1).cells
      obtain⟨q0,q1,q2,q3⟩:=(HC.out.2.2.be HK.out.1).cells
      have hl8:=(HC.out.2.1.be HK.out.1).lt
      have hl9:=(HC.out.2.2.be HK.out.1).lt
      have hnl:=HNL.out
      by_cases hlk:k<np1
      ·obtain⟨x,hx⟩ : ∃ x,fp1[k]?=some x:=⟨_,List.getElem?_eq_getElem (by rw [HNP.out.1];exact hlk)⟩
       obtain⟨y,hy⟩ : ∃ x,fp2[k]?=some x:=⟨_,List.getElem?_eq_getElem (by rw [HNP.out.2];exact hlk)⟩
       obtain⟨b3,of3,rfl,hb3,s0⟩:=(HPQ.out we HK.out.1).1.got hx
       obtain⟨b4,of4,rfl,hb4,t0⟩:=(HPQ.out we HK.out.1).2.got hy
       have HXY:=Lib.hid (And.intro hx hy)
       have hlk2:(k:Int)<(np1:Int):=by omega
       have hk0:(0:Int)<=(k:Int):=by omega
       clear hx hy
       by_cases he:x=y
       rotate_left
       ·have d1:(x==y)=false:=beq_eq_false_iff_ne.2 he
        have d2:(x != y)=true:=bne_iff_ne.2 he
        have HX:Hid (eqFs lines fs fs2=false):=Lib.hid (HQ2.out (by
         rw [HQ3.out]
         have:(fp1==fp2)=false:=by
          rw [beq_eq_false_iff_ne]
          intro e
          have h:=HXY.out
          rw [e,h.2] at h
          have h2:=h.1
          injection h2 with h2
          exact he h2.symm
         rw [this];rfl))
        clear he
        go_upto_region 17 with fail
        refine wp_region_below (by kernel_rfl) (by kernel_rfl) ?_
        have r0 : ∀ z:Since we,z.val.cell? ⟨g8,2,none⟩=some (.slice (some ⟨b3,of3,none⟩) np1 cp1):=fun z=>z.cell p2
        have r1 : ∀ z:Since we,z.val.cell? ⟨g9,2,none⟩=some (.slice (some ⟨b4,of4,none⟩) np1 cp2):=fun z=>z.cell q2
        have y0 : ∀ z:Since we,z.val.cell? ⟨b3,of3+k,none⟩=some (.string (st x)):=fun z=>z.cell s0
        have z0 : ∀ z:Since we,z.val.cell? ⟨b4,of4+k,none⟩=some (.string (st y)):=fun z=>z.cell t0
        repeat (go_big_quiet_step (fail))
        refine wpQuiet_nil ?_
        intro wb hbb
        have HBB:=Lib.hid hbb
        clear hbb r0 r1 y0 z0
        go_wp2_with fail
        refine bodyPost_ret (v:=.bool false) (by simp [results,Tryd.results16,go_sem]) rfl ?_
        exact⟨by rw [HEQ.out _ HX.out],HBW.out _ (HBX.out _ (HK.out.1.trans (HBB.out.mono HK.out.1.size)))⟩
       ·subst he
        go_upto_region 17 with fail
        refine wp_region_below (by kernel_rfl) (by kernel_rfl) ?_
        have r0 : ∀ z:Since we,z.val.cell? ⟨g8,2,none⟩=some (.slice (some ⟨b3,of3,none⟩) np1 cp1):=fun z=>z.cell p2
        have r1 : ∀ z:Since we,z.val.cell? ⟨g9,2,none⟩=some (.slice (some ⟨b4,of4,none⟩) np1 cp2):=fun z=>z.cell q2
        have y0 : ∀ z:Since we,z.val.cell? ⟨b3,of3+k,none⟩=some (.string (st x)):=fun z=>z.cell s0
        have z0 : ∀ z:Since we,z.val.cell? ⟨b4,of4+k,none⟩=some (.string (st x)):=fun z=>z.cell t0
        repeat (go_big_quiet_step (fail))
        refine wpQuiet_nil ?_
        intro wb hbb
        have HBB:=Lib.hid hbb
        clear hbb r0 r1 y0 z0
        go_wp2_with fail
        go_roundw
        case rel=>exact⟨k+1,by go_num,by omega,Lib.hid ⟨HK.out.1.trans (HBB.out.mono HK.out.1.size),fun j hj=>by
         by_cases e:j=k
         ·rw [e,HXY.out.1,HXY.out.2]
         ·exact HK.out.2 j (by omega)⟩⟩
        case measure=>simp [natOf];omega
      ·have HX:Hid (eqFs lines fs fs2=eqFs lines (fs.drop (i2+1)) (fs2.drop (i2+1))):=Lib.hid (by
        have hfp:fp1=fp2:=List.ext_getElem? (fun j=>by
         by_cases h:j<np1
         ·exact HK.out.2 j (by omega)
         ·rw [List.getElem?_eq_none (by rw [HNP.out.1];omega),List.getElem?_eq_none (by rw [HNP.out.2];omega)])
        rw [HQ.out,HQ3.out,HBS.out,hfp]
        simp)
       have HBE:=Lib.hid (HBX.out _ HK.out.1)
       have dl:decide (k<np1)=false:=decide_eq_false hlk
       have dl2:decide ((k:Int)<(np1:Int))=false:=decide_eq_false (by omega)
       go_wp2_with fail
       go_roundw
       case rel=>exact⟨i2+1,by go_num,by omega,Lib.hid ⟨HBE.out,HX.out⟩⟩
       case measure=>simp [natOf];omega
    ·have dl:decide (i2<m1)=false:=decide_eq_false hlt
     have dl2:decide ((i2:Int)<(m1:Int))=false:=decide_eq_false (by omega)
     have HX:Hid (eqFs lines fs fs2=true):=Lib.hid (by
      rw [HL.out.2,List.drop_eq_nil_of_le (by rw [HN.out.2.1];omega),List.drop_eq_nil_of_le (by rw [HN.out.2.2.2];omega)]
      rfl)
     go_wp2_with fail
     refine bodyPost_ret (v:=.bool true) (by simp [results,Tryd.results16,go_sem]) rfl ?_
     exact⟨by rw [HEQ.out _ HX.out],HBW.out _ HL.out.1⟩
set_option maxRecDepth 100000 in
set_option maxHeartbeats 4000000 in
theorem PSame_any (P Q:Nat->Prop) (gs:List (Bt×Int)) (fs:List Fu) (gs2:List (Bt×Int)) (fs2:List Fu) (va vb va2 vb2:Value) (w:World) (hA:SoAt w P gs fs va vb) (hB:SoAt w Q gs2 fs2 va2 vb2) :
  Calls Tryd.prog 9 #[sov va vb,sov va2 vb2] w fun e w'=>e=.returned (.bool (eqSo false gs fs gs2 fs2))/\Below w.heap.size w w':=by
 have hb:Below w.heap.size w ((w.alloc (.cells #[va,vb] 32)).alloc (.cells #[va2,vb2] 32)):=(below_alloc w _).alloc (by simp) _
 have HB:=Lib.hid hb
 have HE:=Lib.hid (Equal_any false P Q gs fs gs2 fs2 va vb va2 vb2 _ (hA.keep (fun b hP hlt=>⟨hb.block b hlt,hP⟩) hb.size) (hB.keep (fun b hP hlt=>⟨hb.block b hlt,hP⟩) hb.size))
 have HO3:Hid (Lo ((w.alloc (.cells #[va,vb] 32)).alloc (.cells #[va2,vb2] 32)) w.heap.size va vb):=Lib.hid (Lo.al (heap_alloc_new w _) _)
 have HO4:Hid (Lo ((w.alloc (.cells #[va,vb] 32)).alloc (.cells #[va2,vb2] 32)) (w.heap.size+1) va2 vb2):=Lib.hid (by
  have h:=heap_alloc_new (w.alloc (.cells #[va,vb] 32)) (.cells #[va2,vb2] 32)
  rw [show (w.alloc (.cells #[va,vb] 32)).heap.size=w.heap.size+1 by simp] at h
  exact h)
 clear hb hA hB
 go_enter Tryd.func9,Tryd.ntmps9
 go_upto_region 1 with fail
 obtain⟨w1,hw1⟩ : ∃ W,(w.alloc (.cells #[va,vb] 32)).alloc (.cells #[va2,vb2] 32)=W:=⟨_,rfl⟩
 obtain⟨g3,hg3⟩ : ∃ x,w.heap.size=x:=⟨_,rfl⟩
 (try rw [hw1])
 rw [hw1] at HB HE HO3 HO4
 rw [hg3] at HO3 HO4
 (try rw [hg3])
 clear hw1
 obtain⟨o0,o1⟩:=HO3.out.cells
 obtain⟨u0,u1⟩:=HO4.out.cells
 have hl3:=HO3.out.lt
 have hl4:=HO4.out.lt
 have HG3:=Lib.hid hg3
 clear hg3
 go_wp2_with fail
 refine HE.out.mono ?_
 rintro e w2 ⟨rfl,hb2⟩
 have HB2:=Lib.hid (HB.out.trans (hb2.mono HB.out.size))
 clear hb2
 go_wp2_with fail
 refine bodyPost_ret (v:=.bool (eqSo false gs fs gs2 fs2)) (by simp [results,Tryd.results9,go_sem]) rfl ?_
 exact⟨rfl,HB2.out⟩
end Go.Proofs.YtpcdinelpfbpfaaDoor
