/-
  WALK of the reference's comparison of expressions. (Filled in from a template of this repo.)
-/
import Derived.Test.YtpcdinelpfbpfaaDoorPsE
namespace Go.Proofs.YtpcdinelpfbpfaaDoor
open Go.ChangeShapes Go.WideShapes Go.ChangeAt Go.RowKit
set_option linter.unusedVariables false
set_option linter.unusedSimpArgs false

theorem FoAt.got {w:World} {P:Nat->Prop} {F:Fo} {cs:List Value} (h:FoAt w P F cs) {j:Nat} {x:Hd×Fo} (hj:F.get j=some x) : ∃ sl,ArgsAt w P x.2 sl /\ ∀ i u,(hdc x.1 sl)[i]?=some u->cs[j * 6+i]?=some u:=by
 induction F generalizing cs j with
 | nil=>cases hj
 | cons hd ar r _ ih =>
  obtain⟨a,cap,rws,cs',rfl,h1,h2,h3,h4,h5,h6⟩:=h
  cases j with
  | zero =>
   have e:(hd,ar)=x:=by injection hj
   subst e
   refine⟨_,⟨a,cap,rws,rfl,h1,h2,h3,h4,h5⟩,fun i u hi=>?_⟩
   have:i<6:=(List.getElem?_eq_some_iff.1 hi).1
   rw [Nat.zero_mul,Nat.zero_add,List.getElem?_append_left (by simpa using this)]
   exact hi
  | succ j =>
   obtain⟨sl,k1,k2⟩:=ih h6 hj
   refine⟨sl,k1,fun i u hi=>?_⟩
   rw [List.getElem?_append_right (by show 6<=_;omega)]
   have e:(j+1) * 6+i - 6=j * 6+i:=by omega
   show cs'[(j+1) * 6+i - 6]?=_
   rw [e]
   exact k2 i u hi
theorem Fo.got_lt {F:Fo} {i:Nat} (h:i<F.len) : ∃ x,F.get i=some x:=by
 induction F generalizing i with
 | nil=>exact absurd h (Nat.not_lt_zero _)
 | cons hd ar r _ ih =>
  cases i with
  | zero=>exact⟨_,rfl⟩
  | succ i=>exact ih (i:=i) (by have h:i+1<r.len+1:=h;omega)
theorem ArgsAt.got {w:World} {P:Nat->Prop} {F:Fo} {a:Option Addr} {n c:Nat} (h:ArgsAt w P F (.slice a n c)) {j:Nat} {x:Hd×Fo} (hj:F.get j=some x) :
  ∃ b off asl csl,a=some ⟨b,off,none⟩/\b<w.heap.size/\ArgsAt w P x.2 (.slice asl x.2.len csl)/\w.cell? ⟨b,off+j * 6,none⟩=some (.int .i64 x.1.k)/\w.cell? ⟨b,off+j * 6+1,none⟩=some (.int .i64 x.1.op)/\w.cell? ⟨b,off+j * 6+2,none⟩=some (.int .i64 x.1.v) /\
   w.cell? ⟨b,off+j * 6+3,none⟩=some (.int .i64 x.1.ln)/\w.cell? ⟨b,off+j * 6+4,none⟩=some (.string (st x.1.nm))/\w.cell? ⟨b,off+j * 6+5,none⟩=some (.slice asl x.2.len csl):=by
 obtain⟨a',cap,rws,e,h1,h2,h3,h4,h5⟩:=h
 injection e with e1 e2 e3
 subst e1
 obtain⟨sl,hs,hc⟩:=h5.got hj
 have hc0:=hc 0 _ rfl
 obtain⟨b,off,ea,_,hb,hcell⟩:=h4 (fun e=>by rw [e] at hc0;cases hc0)
 have hk : ∀ i u,(hdc x.1 sl)[i]?=some u->w.cell? ⟨b,off+(j * 6+i),none⟩=some u:=fun i u hi=>hcell _ _ (hc i u hi)
 obtain⟨asl,csl,rw2,rfl,q⟩:=hs
 refine⟨b,off,asl,csl,ea,hb,⟨asl,csl,rw2,rfl,q⟩,hk 0 _ rfl,?_,?_,?_,?_,?_⟩ <;> rw [Nat.add_assoc]
 ·exact hk 1 _ rfl
 ·exact hk 2 _ rfl
 ·exact hk 3 _ rfl
 ·exact hk 4 _ rfl
 ·exact hk 5 _ rfl
theorem ArgsAt.le {w:World} {P:Nat->Prop} {F:Fo} {v:Value} (h:ArgsAt w P F v) : ∃ a c,v=.slice a F.len c/\F.len<=maxLen:=by
 obtain⟨a,c,_,e,h1,h2,_⟩:=h
 exact⟨a,c,e,Nat.le_trans h1 h2⟩
def XC (F:Fo):Prop := ∀ (lines:Bool) (P Q:Nat->Prop) (G:Fo) (va vb:Value) (w:World),ArgsAt w P F va->ArgsAt w Q G vb ->
 Calls Tryd.prog 41 #[va,vb,.bool lines] w fun e w'=>e=.returned (.bool (eqF lines F G))/\Below w.heap.size w w'
theorem Fo.drop_zero (F:Fo):F.drop 0=F:=by cases F <;> rfl
set_option maxRecDepth 100000 in
set_option maxHeartbeats 16000000 in
theorem exprs_step (F:Fo) (hE : ∀ j x,F.get j=some x->XC x.2):XC F:=by
 intro lines P Q G va vb w hF hG
 obtain⟨a,ca,rfl,hFm⟩:=hF.le
 obtain⟨b,cb,rfl,hGm⟩:=hG.le
 have HF:=Lib.hid hF
 have HG:=Lib.hid hG
 have HE:=Lib.hid hE
 obtain⟨n,hn⟩ : ∃ n,F.len=n:=⟨_,rfl⟩
 obtain⟨m,hm⟩ : ∃ n,G.len=n:=⟨_,rfl⟩
 have HN:=Lib.hid (And.intro hn hm)
 have hFm2:n<=9223372036854775807:=by rw [<- hn];unfold maxLen at hFm;omega
 rw [hn] at HF ⊢
 rw [hm] at HG ⊢
 clear hF hG hE hn hm hFm hGm
 go_enter Tryd.func41,Tryd.ntmps41
 by_cases hnm:n=m
 rotate_left
 ·have d1:(n==m)=false:=by rw [beq_eq_false_iff_ne];exact hnm
  have d2:((n:Int)==(m:Int))=false:=by rw [beq_eq_false_iff_ne];omega
  have d3:((n:Int) != (m:Int))=true:=by rw [bne_iff_ne];omega
  have HX:Hid (eqF lines F G=false):=Lib.hid (eqF_len (by rw [HN.out.1,HN.out.2];exact hnm))
  clear hnm
  go_wp2_with fail
  refine bodyPost_ret (v:=.bool false) (by simp [results,Tryd.results41,go_sem]) rfl ?_
  exact⟨by rw [HX.out],Below.refl _ _⟩
 ·subst hnm
  go_upto_block 0 with fail
  go_wp2_with fail
  go_loopw [7] (fun v7 wr => ∃ i:Nat,v7=.int .i64 (i:Int)/\i<=n/\Hid (Below w.heap.size w wr/\eqF lines F G=eqF lines (F.drop i) (G.drop i))) (fun v7 _=>n - natOf v7)
  case atStart=>exact⟨0,rfl,Nat.zero_le _,Lib.hid ⟨Below.refl _ _,by rw [Fo.drop_zero,Fo.drop_zero]⟩⟩
  case round =>
   rename World=>wa
   obtain⟨i,rfl,hin,HL⟩:=hrel
   by_cases hlt:i<n
   ·obtain⟨⟨⟨k1,o1,v1,l1,n1⟩,ar1⟩,hx⟩:=Fo.got_lt (F:=F) (i:=i) (by rw [HN.out.1];exact hlt)
    obtain⟨⟨⟨k2,o2,v2,l2,n2⟩,ar2⟩,hy⟩:=Fo.got_lt (F:=G) (i:=i) (by rw [HN.out.2];exact hlt)
    obtain⟨b1,of1,as1,cs1,rfl,hb1,hA1,p0,p1,p2,p3,p4,p5⟩:=(HF.out.keep (Q:=P) (fun b hb hlt=>⟨HL.out.1.block b hlt,hb⟩) HL.out.1.size).got hx
    obtain⟨b2,of2,as2,cs2,rfl,hb2,hA2,q0,q1,q2,q3,q4,q5⟩:=(HG.out.keep (Q:=Q) (fun b hb hlt=>⟨HL.out.1.block b hlt,hb⟩) HL.out.1.size).got hy
    have HC:Hid (∀ W,Below wa.heap.size wa W->Calls Tryd.prog 41 #[.slice as1 ar1.len cs1,.slice as2 ar2.len cs2,.bool lines] W fun e w'=>e=.returned (.bool (eqF lines ar1 ar2))/\Below W.heap.size W w'):=Lib.hid (fun W hW=>HE.out i _ hx lines P Q ar2 _ _ W (hA1.keep (fun b hb hlt=>⟨hW.block b hlt,hb⟩) hW.size) (hA2.keep (fun b hb hlt=>⟨hW.block b hlt,hb⟩) hW.size))
    have HQ:Hid (eqF lines F G=((k1==k2&&(o1==o2&&(v1==v2&&(n1==n2&&((!lines||l1==l2)&&eqF lines ar1 ar2)))))&&eqF lines (F.drop (i+1)) (G.drop (i+1)))):=Lib.hid (by
     rw [HL.out.2,Fo.drop_get hx,Fo.drop_get hy]
     rfl)
    have hlt2:(i:Int)<(n:Int):=by omega
    have hi0:(0:Int)<=(i:Int):=by omega
    (try dsimp only at p0 p1 p2 p3 p4 p5 q0 q1 q2 q3 q4 q5)
    clear hx hy hA1 hA2
    have HEND:Hid (eqF lines F G=false -> ∀ (e:Ending) (wz:World),e=.returned (.bool false)->Below wa.heap.size wa wz->e=.returned (.bool (eqF lines F G))/\Below w.heap.size w wz):=Lib.hid (fun h1 e wz he hb=>⟨by rw [h1];exact he,HL.out.1.trans (hb.mono HL.out.1.size)⟩)
    by_cases ek:k1=k2
    rotate_left
    ·have d1:(k1==k2)=false:=beq_eq_false_iff_ne.2 ek
     have d2:(k1 != k2)=true:=bne_iff_ne.2 ek
     have HX:Hid (eqF lines F G=false):=Lib.hid (by rw [HQ.out,d1];rfl)
     clear ek
     go_upto_region 6 with fail
     dsimp only [List.append]
     refine wp_region_below (by kernel_rfl) (by kernel_rfl) ?_
     have y0 : ∀ x:Since wa,x.val.cell? ⟨b1,of1+i * 6,none⟩=some (.int .i64 k1):=fun x=>x.cell p0
     have y1 : ∀ x:Since wa,x.val.cell? ⟨b1,of1+i * 6+1,none⟩=some (.int .i64 o1):=fun x=>x.cell p1
     have y2 : ∀ x:Since wa,x.val.cell? ⟨b1,of1+i * 6+2,none⟩=some (.int .i64 v1):=fun x=>x.cell p2
     have y3 : ∀ x:Since wa,x.val.cell? ⟨b1,of1+i * 6+3,none⟩=some (.int .i64 l1):=fun x=>x.cell p3
     have y4 : ∀ x:Since wa,x.val.cell? ⟨b1,of1+i * 6+4,none⟩=some (.string (st n1)):=fun x=>x.cell p4
     have y5 : ∀ x:Since wa,x.val.cell? ⟨b1,of1+i * 6+5,none⟩=some (.slice as1 ar1.len cs1):=fun x=>x.cell p5
     have z0 : ∀ x:Since wa,x.val.cell? ⟨b2,of2+i * 6,none⟩=some (.int .i64 k2):=fun x=>x.cell q0
     have z1 : ∀ x:Since wa,x.val.cell? ⟨b2,of2+i * 6+1,none⟩=some (.int .i64 o2):=fun x=>x.cell q1
     have z2 : ∀ x:Since wa,x.val.cell? ⟨b2,of2+i * 6+2,none⟩=some (.int .i64 v2):=fun x=>x.cell q2
     have z3 : ∀ x:Since wa,x.val.cell? ⟨b2,of2+i * 6+3,none⟩=some (.int .i64 l2):=fun x=>x.cell q3
     have z4 : ∀ x:Since wa,x.val.cell? ⟨b2,of2+i * 6+4,none⟩=some (.string (st n2)):=fun x=>x.cell q4
     have z5 : ∀ x:Since wa,x.val.cell? ⟨b2,of2+i * 6+5,none⟩=some (.slice as2 ar2.len cs2):=fun x=>x.cell q5
     repeat (go_big_quiet_step ((first | (go_at_call 41;exact calls_since _ (HC.out _ (Since.property _))))))
     refine wpQuiet_nil ?_
     intro wb hbb
     have HBB:=Lib.hid hbb
     clear hbb y0 y1 y2 y3 y4 y5 z0 z1 z2 z3 z4 z5
     go_wp2_with fail
     refine bodyPost_ret (v:=.bool false) (by simp [results,Tryd.results41,go_sem]) rfl ?_
     exact HEND.out HX.out _ _ rfl HBB.out
    subst ek
    by_cases eo:o1=o2
    rotate_left
    ·have d1:(o1==o2)=false:=beq_eq_false_iff_ne.2 eo
     have d2:(o1 != o2)=true:=bne_iff_ne.2 eo
     have HX:Hid (eqF lines F G=false):=Lib.hid (by rw [HQ.out,d1];simp)
     clear eo
     go_upto_region 6 with fail
     dsimp only [List.append]
     refine wp_region_below (by kernel_rfl) (by kernel_rfl) ?_
     have y0 : ∀ x:Since wa,x.val.cell? ⟨b1,of1+i * 6,none⟩=some (.int .i64 k1):=fun x=>x.cell p0
     have y1 : ∀ x:Since wa,x.val.cell? ⟨b1,of1+i * 6+1,none⟩=some (.int .i64 o1):=fun x=>x.cell p1
     have y2 : ∀ x:Since wa,x.val.cell? ⟨b1,of1+i * 6+2,none⟩=some (.int .i64 v1):=fun x=>x.cell p2
     have y3 : ∀ x:Since wa,x.val.cell? ⟨b1,of1+i * 6+3,none⟩=some (.int .i64 l1):=fun x=>x.cell p3
     have y4 : ∀ x:Since wa,x.val.cell? ⟨b1,of1+i * 6+4,none⟩=some (.string (st n1)):=fun x=>x.cell p4
     have y5 : ∀ x:Since wa,x.val.cell? ⟨b1,of1+i * 6+5,none⟩=some (.slice as1 ar1.len cs1):=fun x=>x.cell p5
     have z0 : ∀ x:Since wa,x.val.cell? ⟨b2,of2+i * 6,none⟩=some (.int .i64 k1):=fun x=>x.cell q0
     have z1 : ∀ x:Since wa,x.val.cell? ⟨b2,of2+i * 6+1,none⟩=some (.int .i64 o2):=fun x=>x.cell q1
     have z2 : ∀ x:Since wa,x.val.cell? ⟨b2,of2+i * 6+2,none⟩=some (.int .i64 v2):=fun x=>x.cell q2
     have z3 : ∀ x:Since wa,x.val.cell? ⟨b2,of2+i * 6+3,none⟩=some (.int .i64 l2):=fun x=>x.cell q3
     have z4 : ∀ x:Since wa,x.val.cell? ⟨b2,of2+i * 6+4,none⟩=some (.string (st n2)):=fun x=>x.cell q4
     have z5 : ∀ x:Since wa,x.val.cell? ⟨b2,of2+i * 6+5,none⟩=some (.slice as2 ar2.len cs2):=fun x=>x.cell q5
     repeat (go_big_quiet_step ((first | (go_at_call 41;exact calls_since _ (HC.out _ (Since.property _))))))
     refine wpQuiet_nil ?_
     intro wb hbb
     have HBB:=Lib.hid hbb
     clear hbb y0 y1 y2 y3 y4 y5 z0 z1 z2 z3 z4 z5
     go_wp2_with fail
     refine bodyPost_ret (v:=.bool false) (by simp [results,Tryd.results41,go_sem]) rfl ?_
     exact HEND.out HX.out _ _ rfl HBB.out
    subst eo
    by_cases ev:v1=v2
    rotate_left
    ·have d1:(v1==v2)=false:=beq_eq_false_iff_ne.2 ev
     have d2:(v1 != v2)=true:=bne_iff_ne.2 ev
     have HX:Hid (eqF lines F G=false):=Lib.hid (by rw [HQ.out,d1];simp)
     clear ev
     go_upto_region 6 with fail
     dsimp only [List.append]
     refine wp_region_below (by kernel_rfl) (by kernel_rfl) ?_
     have y0 : ∀ x:Since wa,x.val.cell? ⟨b1,of1+i * 6,none⟩=some (.int .i64 k1):=fun x=>x.cell p0
     have y1 : ∀ x:Since wa,x.val.cell? ⟨b1,of1+i * 6+1,none⟩=some (.int .i64 o1):=fun x=>x.cell p1
     have y2 : ∀ x:Since wa,x.val.cell? ⟨b1,of1+i * 6+2,none⟩=some (.int .i64 v1):=fun x=>x.cell p2
     have y3 : ∀ x:Since wa,x.val.cell? ⟨b1,of1+i * 6+3,none⟩=some (.int .i64 l1):=fun x=>x.cell p3
     have y4 : ∀ x:Since wa,x.val.cell? ⟨b1,of1+i * 6+4,none⟩=some (.string (st n1)):=fun x=>x.cell p4
     have y5 : ∀ x:Since wa,x.val.cell? ⟨b1,of1+i * 6+5,none⟩=some (.slice as1 ar1.len cs1):=fun x=>x.cell p5
     have z0 : ∀ x:Since wa,x.val.cell? ⟨b2,of2+i * 6,none⟩=some (.int .i64 k1):=fun x=>x.cell q0
     have z1 : ∀ x:Since wa,x.val.cell? ⟨b2,of2+i * 6+1,none⟩=some (.int .i64 o1):=fun x=>x.cell q1
     have z2 : ∀ x:Since wa,x.val.cell? ⟨b2,of2+i * 6+2,none⟩=some (.int .i64 v2):=fun x=>x.cell q2
     have z3 : ∀ x:Since wa,x.val.cell? ⟨b2,of2+i * 6+3,none⟩=some (.int .i64 l2):=fun x=>x.cell q3
     have z4 : ∀ x:Since wa,x.val.cell? ⟨b2,of2+i * 6+4,none⟩=some (.string (st n2)):=fun x=>x.cell q4
     have z5 : ∀ x:Since wa,x.val.cell? ⟨b2,of2+i * 6+5,none⟩=some (.slice as2 ar2.len cs2):=fun x=>x.cell q5
     repeat (go_big_quiet_step ((first | (go_at_call 41;exact calls_since _ (HC.out _ (Since.property _))))))
     refine wpQuiet_nil ?_
     intro wb hbb
     have HBB:=Lib.hid hbb
     clear hbb y0 y1 y2 y3 y4 y5 z0 z1 z2 z3 z4 z5
     go_wp2_with fail
     refine bodyPost_ret (v:=.bool false) (by simp [results,Tryd.results41,go_sem]) rfl ?_
     exact HEND.out HX.out _ _ rfl HBB.out
    subst ev
    by_cases en:n1=n2
    rotate_left
    ·have d1:(n1==n2)=false:=beq_eq_false_iff_ne.2 en
     have d2:(n1 != n2)=true:=bne_iff_ne.2 en
     have HX:Hid (eqF lines F G=false):=Lib.hid (by rw [HQ.out,d1];simp)
     clear en
     go_upto_region 6 with fail
     dsimp only [List.append]
     refine wp_region_below (by kernel_rfl) (by kernel_rfl) ?_
     have y0 : ∀ x:Since wa,x.val.cell? ⟨b1,of1+i * 6,none⟩=some (.int .i64 k1):=fun x=>x.cell p0
     have y1 : ∀ x:Since wa,x.val.cell? ⟨b1,of1+i * 6+1,none⟩=some (.int .i64 o1):=fun x=>x.cell p1
     have y2 : ∀ x:Since wa,x.val.cell? ⟨b1,of1+i * 6+2,none⟩=some (.int .i64 v1):=fun x=>x.cell p2
     have y3 : ∀ x:Since wa,x.val.cell? ⟨b1,of1+i * 6+3,none⟩=some (.int .i64 l1):=fun x=>x.cell p3
     have y4 : ∀ x:Since wa,x.val.cell? ⟨b1,of1+i * 6+4,none⟩=some (.string (st n1)):=fun x=>x.cell p4
     have y5 : ∀ x:Since wa,x.val.cell? ⟨b1,of1+i * 6+5,none⟩=some (.slice as1 ar1.len cs1):=fun x=>x.cell p5
     have z0 : ∀ x:Since wa,x.val.cell? ⟨b2,of2+i * 6,none⟩=some (.int .i64 k1):=fun x=>x.cell q0
     have z1 : ∀ x:Since wa,x.val.cell? ⟨b2,of2+i * 6+1,none⟩=some (.int .i64 o1):=fun x=>x.cell q1
     have z2 : ∀ x:Since wa,x.val.cell? ⟨b2,of2+i * 6+2,none⟩=some (.int .i64 v1):=fun x=>x.cell q2
     have z3 : ∀ x:Since wa,x.val.cell? ⟨b2,of2+i * 6+3,none⟩=some (.int .i64 l2):=fun x=>x.cell q3
     have z4 : ∀ x:Since wa,x.val.cell? ⟨b2,of2+i * 6+4,none⟩=some (.string (st n2)):=fun x=>x.cell q4
     have z5 : ∀ x:Since wa,x.val.cell? ⟨b2,of2+i * 6+5,none⟩=some (.slice as2 ar2.len cs2):=fun x=>x.cell q5
     repeat (go_big_quiet_step ((first | (go_at_call 41;exact calls_since _ (HC.out _ (Since.property _))))))
     refine wpQuiet_nil ?_
     intro wb hbb
     have HBB:=Lib.hid hbb
     clear hbb y0 y1 y2 y3 y4 y5 z0 z1 z2 z3 z4 z5
     go_wp2_with fail
     refine bodyPost_ret (v:=.bool false) (by simp [results,Tryd.results41,go_sem]) rfl ?_
     exact HEND.out HX.out _ _ rfl HBB.out
    subst en
    obtain⟨bl,hbl⟩ : ∃ b,(!lines||l1==l2)=b:=⟨_,rfl⟩
    have HBL:=Lib.hid hbl
    cases bl
    ·have HX:Hid (eqF lines F G=false):=Lib.hid (by rw [HQ.out,HBL.out];simp)
     obtain⟨rfl,el⟩:lines=true/\l1≠l2:=by
      cases lines
      ·simp at hbl
      ·simp at hbl;exact⟨rfl,hbl⟩
     have d1:(l1==l2)=false:=beq_eq_false_iff_ne.2 el
     have d2:(l1 != l2)=true:=bne_iff_ne.2 el
     clear el hbl
     go_upto_region 6 with fail
     dsimp only [List.append]
     refine wp_region_below (by kernel_rfl) (by kernel_rfl) ?_
     have y0 : ∀ x:Since wa,x.val.cell? ⟨b1,of1+i * 6,none⟩=some (.int .i64 k1):=fun x=>x.cell p0
     have y1 : ∀ x:Since wa,x.val.cell? ⟨b1,of1+i * 6+1,none⟩=some (.int .i64 o1):=fun x=>x.cell p1
     have y2 : ∀ x:Since wa,x.val.cell? ⟨b1,of1+i * 6+2,none⟩=some (.int .i64 v1):=fun x=>x.cell p2
     have y3 : ∀ x:Since wa,x.val.cell? ⟨b1,of1+i * 6+3,none⟩=some (.int .i64 l1):=fun x=>x.cell p3
     have y4 : ∀ x:Since wa,x.val.cell? ⟨b1,of1+i * 6+4,none⟩=some (.string (st n1)):=fun x=>x.cell p4
     have y5 : ∀ x:Since wa,x.val.cell? ⟨b1,of1+i * 6+5,none⟩=some (.slice as1 ar1.len cs1):=fun x=>x.cell p5
     have z0 : ∀ x:Since wa,x.val.cell? ⟨b2,of2+i * 6,none⟩=some (.int .i64 k1):=fun x=>x.cell q0
     have z1 : ∀ x:Since wa,x.val.cell? ⟨b2,of2+i * 6+1,none⟩=some (.int .i64 o1):=fun x=>x.cell q1
     have z2 : ∀ x:Since wa,x.val.cell? ⟨b2,of2+i * 6+2,none⟩=some (.int .i64 v1):=fun x=>x.cell q2
     have z3 : ∀ x:Since wa,x.val.cell? ⟨b2,of2+i * 6+3,none⟩=some (.int .i64 l2):=fun x=>x.cell q3
     have z4 : ∀ x:Since wa,x.val.cell? ⟨b2,of2+i * 6+4,none⟩=some (.string (st n1)):=fun x=>x.cell q4
     have z5 : ∀ x:Since wa,x.val.cell? ⟨b2,of2+i * 6+5,none⟩=some (.slice as2 ar2.len cs2):=fun x=>x.cell q5
     repeat (go_big_quiet_step ((first | (go_at_call 41;exact calls_since _ (HC.out _ (Since.property _))))))
     refine wpQuiet_nil ?_
     intro wb hbb
     have HBB:=Lib.hid hbb
     clear hbb y0 y1 y2 y3 y4 y5 z0 z1 z2 z3 z4 z5
     go_wp2_with fail
     refine bodyPost_ret (v:=.bool false) (by simp [results,Tryd.results41,go_sem]) rfl ?_
     exact HEND.out HX.out _ _ rfl HBB.out
    have hll:lines=false\/(lines=true/\l1=l2):=by
     cases lines
     ·exact .inl rfl
     ·simp at hbl;exact .inr ⟨rfl,hbl⟩
    clear hbl
    have HS:Hid (eqF lines F G=(eqF lines ar1 ar2&&eqF lines (F.drop (i+1)) (G.drop (i+1)))):=Lib.hid (by rw [HQ.out,HBL.out];simp)
    rcases hll with rfl | ⟨rfl,rfl⟩
    ·go_upto_region 6 with fail
     dsimp only [List.append]
     refine wp_region_below (by kernel_rfl) (by kernel_rfl) ?_
     have y0 : ∀ x:Since wa,x.val.cell? ⟨b1,of1+i * 6,none⟩=some (.int .i64 k1):=fun x=>x.cell p0
     have y1 : ∀ x:Since wa,x.val.cell? ⟨b1,of1+i * 6+1,none⟩=some (.int .i64 o1):=fun x=>x.cell p1
     have y2 : ∀ x:Since wa,x.val.cell? ⟨b1,of1+i * 6+2,none⟩=some (.int .i64 v1):=fun x=>x.cell p2
     have y3 : ∀ x:Since wa,x.val.cell? ⟨b1,of1+i * 6+3,none⟩=some (.int .i64 l1):=fun x=>x.cell p3
     have y4 : ∀ x:Since wa,x.val.cell? ⟨b1,of1+i * 6+4,none⟩=some (.string (st n1)):=fun x=>x.cell p4
     have y5 : ∀ x:Since wa,x.val.cell? ⟨b1,of1+i * 6+5,none⟩=some (.slice as1 ar1.len cs1):=fun x=>x.cell p5
     have z0 : ∀ x:Since wa,x.val.cell? ⟨b2,of2+i * 6,none⟩=some (.int .i64 k1):=fun x=>x.cell q0
     have z1 : ∀ x:Since wa,x.val.cell? ⟨b2,of2+i * 6+1,none⟩=some (.int .i64 o1):=fun x=>x.cell q1
     have z2 : ∀ x:Since wa,x.val.cell? ⟨b2,of2+i * 6+2,none⟩=some (.int .i64 v1):=fun x=>x.cell q2
     have z3 : ∀ x:Since wa,x.val.cell? ⟨b2,of2+i * 6+3,none⟩=some (.int .i64 l2):=fun x=>x.cell q3
     have z4 : ∀ x:Since wa,x.val.cell? ⟨b2,of2+i * 6+4,none⟩=some (.string (st n1)):=fun x=>x.cell q4
     have z5 : ∀ x:Since wa,x.val.cell? ⟨b2,of2+i * 6+5,none⟩=some (.slice as2 ar2.len cs2):=fun x=>x.cell q5
     repeat (go_big_quiet_step ((first | (go_at_call 41;exact calls_since _ (HC.out _ (Since.property _))))))
     refine wpQuiet_nil ?_
     intro wb hbb
     have HBB:=Lib.hid hbb
     clear hbb y0 y1 y2 y3 y4 y5 z0 z1 z2 z3 z4 z5
     cases hr:eqF false ar1 ar2
     ·have HX:Hid (eqF false F G=false):=Lib.hid (by rw [HS.out,hr];rfl)
      (try rw [hr])
      clear hr
      go_wp2_with fail
      refine bodyPost_ret (v:=.bool false) (by simp [results,Tryd.results41,go_sem]) rfl ?_
      exact HEND.out HX.out _ _ rfl HBB.out
     ·have HX:Hid (eqF false F G=eqF false (F.drop (i+1)) (G.drop (i+1))):=Lib.hid (by rw [HS.out,hr];rfl)
      (try rw [hr])
      clear hr
      go_wp2_with fail
      go_roundw
      case rel=>exact⟨i+1,by go_num,by omega,Lib.hid ⟨HL.out.1.trans (HBB.out.mono HL.out.1.size),HX.out⟩⟩
      case measure=>simp [natOf];omega
    ·go_upto_region 6 with fail
     dsimp only [List.append]
     refine wp_region_below (by kernel_rfl) (by kernel_rfl) ?_
     have y0 : ∀ x:Since wa,x.val.cell? ⟨b1,of1+i * 6,none⟩=some (.int .i64 k1):=fun x=>x.cell p0
     have y1 : ∀ x:Since wa,x.val.cell? ⟨b1,of1+i * 6+1,none⟩=some (.int .i64 o1):=fun x=>x.cell p1
     have y2 : ∀ x:Since wa,x.val.cell? ⟨b1,of1+i * 6+2,none⟩=some (.int .i64 v1):=fun x=>x.cell p2
     have y3 : ∀ x:Since wa,x.val.cell? ⟨b1,of1+i * 6+3,none⟩=some (.int .i64 l1):=fun x=>x.cell p3
     have y4 : ∀ x:Since wa,x.val.cell? ⟨b1,of1+i * 6+4,none⟩=some (.string (st n1)):=fun x=>x.cell p4
     have y5 : ∀ x:Since wa,x.val.cell? ⟨b1,of1+i * 6+5,none⟩=some (.slice as1 ar1.len cs1):=fun x=>x.cell p5
     have z0 : ∀ x:Since wa,x.val.cell? ⟨b2,of2+i * 6,none⟩=some (.int .i64 k1):=fun x=>x.cell q0
     have z1 : ∀ x:Since wa,x.val.cell? ⟨b2,of2+i * 6+1,none⟩=some (.int .i64 o1):=fun x=>x.cell q1
     have z2 : ∀ x:Since wa,x.val.cell? ⟨b2,of2+i * 6+2,none⟩=some (.int .i64 v1):=fun x=>x.cell q2
     have z3 : ∀ x:Since wa,x.val.cell? ⟨b2,of2+i * 6+3,none⟩=some (.int .i64 l1):=fun x=>x.cell q3
     have z4 : ∀ x:Since wa,x.val.cell? ⟨b2,of2+i * 6+4,none⟩=some (.string (st n1)):=fun x=>x.cell q4
     have z5 : ∀ x:Since wa,x.val.cell? ⟨b2,of2+i * 6+5,none⟩=some (.slice as2 ar2.len cs2):=fun x=>x.cell q5
     repeat (go_big_quiet_step ((first | (go_at_call 41;exact calls_since _ (HC.out _ (Since.property _))))))
     refine wpQuiet_nil ?_
     intro wb hbb
     have HBB:=Lib.hid hbb
     clear hbb y0 y1 y2 y3 y4 y5 z0 z1 z2 z3 z4 z5
     cases hr:eqF true ar1 ar2
     ·have HX:Hid (eqF true F G=false):=Lib.hid (by rw [HS.out,hr];rfl)
      (try rw [hr])
      clear hr
      go_wp2_with fail
      refine bodyPost_ret (v:=.bool false) (by simp [results,Tryd.results41,go_sem]) rfl ?_
      exact HEND.out HX.out _ _ rfl HBB.out
     ·have HX:Hid (eqF true F G=eqF true (F.drop (i+1)) (G.drop (i+1))):=Lib.hid (by rw [HS.out,hr];rfl)
      (try rw [hr])
      clear hr
      go_wp2_with fail
      go_roundw
      case rel=>exact⟨i+1,by go_num,by omega,Lib.hid ⟨HL.out.1.trans (HBB.out.mono HL.out.1.size),HX.out⟩⟩
      case measure=>simp [natOf];omega
   ·obtain rfl:i=n:=by omega
    have HX:Hid (eqF lines F G=true):=Lib.hid (by
     have e1:=Fo.drop_len F
     have e2:=Fo.drop_len G
     rw [HN.out.1] at e1
     rw [HN.out.2] at e2
     rw [HL.out.2,e1,e2]
     rfl)
    go_wp2_with fail
    refine bodyPost_ret (v:=.bool true) (by simp [results,Tryd.results41,go_sem]) rfl ?_
    exact⟨by rw [HX.out],HL.out.1⟩
theorem exprs_sub (F:Fo) : ∀ j x,F.get j=some x->XC x.2:=by
 induction F with
 | nil=>intro j x hx;cases hx
 | cons h ar r ih1 ih2 =>
  intro j x hx
  cases j with
  | zero =>
   have e:(h,ar)=x:=by injection hx
   subst e
   exact exprs_step ar ih1
  | succ j=>exact ih2 j x hx
theorem exprs_any (F:Fo):XC F:=exprs_step F (exprs_sub F)
end Go.Proofs.YtpcdinelpfbpfaaDoor
