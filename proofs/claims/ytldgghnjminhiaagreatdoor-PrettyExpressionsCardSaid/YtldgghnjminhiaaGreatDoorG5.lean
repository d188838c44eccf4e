/-
  WORDS, PLAIN LAWS and WALKS (WpV WpF PxL PqP PqZ PpQ PsW), pressed. (Filled in from templates of this repo.)
-/
import Derived.Test.YtldgghnjminhiaaGreatDoorG4
import Derived.Test.YtldgghnjminhiaaGreatDoorG3
import Derived.Deep.CutBlock
import Derived.Deep.CutRange
namespace Go.Proofs.YtldgghnjminhiaaGreatDoor
open Go.ChangeAt Go.ChangeShapes Go.RowKit Go.WideShapes
set_option linter.unusedVariables false
set_option linter.unusedSimpArgs false
set_option maxRecDepth 100000
set_option maxHeartbeats 16000000
theorem Tz (h:Hd) (ar:Fo) (hkk:h.k=7) (x y:Hd×Fo) (hx:ar.get 0=some x) (hy:ar.get 1=some y) (Ha:ar.len=2) (hE:PE x.1 x.2) (hE2:PE y.1 y.2):PE h ar:=by
 have hv:Xn h ar=opd x.1 (Xn x.1 x.2)++([32,38,38,32]++opd y.1 (Xn y.1 y.2)):=by
  have h1:=Zf ar 0 x hx
  have h2:=Zf ar 1 y hy
  have h3:=Zr ar
  show Xs h (Yk ar)=_
  match hf:Yk ar,h1,h2,h3 with
  | [q,q2],h1,h2,_=>simp at h1 h2;subst h1 h2;unfold Xs;simp[hkk]
  | [],h1,_,_=>simp at h1
  | [_],_,h2,_=>simp at h2
  | _::_::_::_,_,_,h3=>simp[Ha] at h3
 have HV:=Xj hv
 have HP:=Xj (Kq h ar x y hx hy Ha hE hE2 [38,38])
 clear hE hE2 hx hy
 intro W sl B b t ha hb hl
 rw[hv] at hl
 clear hv
 (try simp only[List.length_append,List.length_cons,List.length_nil] at hl)
 obtain⟨a,c,w1,g,rfl,hw1,hg,hX⟩:=Ug (h:=h) ha hb
 have HX:=Xj hX
 obtain⟨p0,p1,p2,p3,p4,p5⟩:=Yq hX.row
 have hlt:=hX.bd.lt
 have hjq:=hX.hc
 have HKK:=Xj hkk
 rw[hkk] at p0
 clear hX ha hb hkk Ha
 have HXd:=Xj (HX.o.below (Below.refl _ _).drew)
 go_enter Tryz.func51,Tryz.ntmps51
 go_upto_region 18 with fail
 (try rw[hw1])
 (try rw[hg])
 clear hw1 hg
 rw[<- HKK.o] at p0
 go_wp2_with fail
 refine(HP.o _ _ B b t HX.o.at' HX.o.bd (by decide) (by simp only[List.length_append,List.length_cons,List.length_nil];omega)).mono ?_
 rintro e w2 ⟨rfl,hb2,hk2⟩
 have HX2:=Xj (HX.o.next hb2 hk2)
 clear hb2 hk2 p0 p1 p2 p3 p4 p5
 go_wp2_with fail
 refine bodyPost_ret (results_none rfl _ _ _) rfl ?_
 refine⟨rfl,?_,HX2.o.wk⟩
 have:=HX2.o.bd
 rw[HV.o]
 simpa [List.append_assoc] using this
theorem Cz (h:Hd) (ar:Fo) (hkk:h.k=8) (x y:Hd×Fo) (hx:ar.get 0=some x) (hy:ar.get 1=some y) (Ha:ar.len=2) (hE:PE x.1 x.2) (hE2:PE y.1 y.2):PE h ar:=by
 have hv:Xn h ar=opd x.1 (Xn x.1 x.2)++([32,124,124,32]++opd y.1 (Xn y.1 y.2)):=by
  have h1:=Zf ar 0 x hx
  have h2:=Zf ar 1 y hy
  have h3:=Zr ar
  show Xs h (Yk ar)=_
  match hf:Yk ar,h1,h2,h3 with
  | [q,q2],h1,h2,_=>simp at h1 h2;subst h1 h2;unfold Xs;simp[hkk]
  | [],h1,_,_=>simp at h1
  | [_],_,h2,_=>simp at h2
  | _::_::_::_,_,_,h3=>simp[Ha] at h3
 have HV:=Xj hv
 have HP:=Xj (Kq h ar x y hx hy Ha hE hE2 [124,124])
 clear hE hE2 hx hy
 intro W sl B b t ha hb hl
 rw[hv] at hl
 clear hv
 (try simp only[List.length_append,List.length_cons,List.length_nil] at hl)
 obtain⟨a,c,w1,g,rfl,hw1,hg,hX⟩:=Ug (h:=h) ha hb
 have HX:=Xj hX
 obtain⟨p0,p1,p2,p3,p4,p5⟩:=Yq hX.row
 have hlt:=hX.bd.lt
 have hjq:=hX.hc
 have HKK:=Xj hkk
 rw[hkk] at p0
 clear hX ha hb hkk Ha
 have HXd:=Xj (HX.o.below (Below.refl _ _).drew)
 go_enter Tryz.func51,Tryz.ntmps51
 go_upto_region 20 with fail
 (try rw[hw1])
 (try rw[hg])
 clear hw1 hg
 rw[<- HKK.o] at p0
 go_wp2_with fail
 refine(HP.o _ _ B b t HX.o.at' HX.o.bd (by decide) (by simp only[List.length_append,List.length_cons,List.length_nil];omega)).mono ?_
 rintro e w2 ⟨rfl,hb2,hk2⟩
 have HX2:=Xj (HX.o.next hb2 hk2)
 clear hb2 hk2 p0 p1 p2 p3 p4 p5
 go_wp2_with fail
 refine bodyPost_ret (results_none rfl _ _ _) rfl ?_
 refine⟨rfl,?_,HX2.o.wk⟩
 have:=HX2.o.bd
 rw[HV.o]
 simpa [List.append_assoc] using this
theorem Hq (h:Hd) (ar:Fo) (hkk:h.k=6) (ho0:0<=h.op) (ho1:h.op<=11) (x y:Hd×Fo) (hx:ar.get 0=some x) (hy:ar.get 1=some y) (Ha:ar.len=2) (hE:PE x.1 x.2) (hE2:PE y.1 y.2):PE h ar:=by
 have hv:Xn h ar=opd x.1 (Xn x.1 x.2)++([32]++(sgn h.op++([32]++opd y.1 (Xn y.1 y.2)))):=by
  have h1:=Zf ar 0 x hx
  have h2:=Zf ar 1 y hy
  have h3:=Zr ar
  show Xs h (Yk ar)=_
  match hf:Yk ar,h1,h2,h3 with
  | [q,q2],h1,h2,_=>simp at h1 h2;subst h1 h2;unfold Xs;simp[hkk]
  | [],h1,_,_=>simp at h1
  | [_],_,h2,_=>simp at h2
  | _::_::_::_,_,_,h3=>simp[Ha] at h3
 have HV:=Xj hv
 have HP:=Xj (Kq h ar x y hx hy Ha hE hE2 (sgn h.op))
 have HOP:=Xj (And.intro ho0 ho1)
 have hsl:=Uc h.op
 clear hE hE2 hx hy ho0 ho1
 intro W sl B b t ha hb hl
 rw[hv] at hl
 clear hv
 (try simp only[List.length_append,List.length_cons,List.length_nil] at hl)
 obtain⟨a,c,w1,g,rfl,hw1,hg,hX⟩:=Ug (h:=h) ha hb
 have HX:=Xj hX
 obtain⟨p0,p1,p2,p3,p4,p5⟩:=Yq hX.row
 have hlt:=hX.bd.lt
 have hjq:=hX.hc
 have HKK:=Xj hkk
 have p00:=p0
 rw[hkk] at p0
 clear hX ha hb hkk Ha
 have HXd:=Xj (HX.o.below (Below.refl _ _).drew)
 go_enter Tryz.func51,Tryz.ntmps51
 go_upto_region 16 with fail
 (try rw[hw1])
 (try rw[hg])
 clear hw1 hg
 refine wp_region_held_drew (S:=(λ w'=>w'.cell? ⟨g,0,none⟩=some (.int .i64 h.k)/\w'.cell? ⟨g,1,none⟩=some (.int .i64 h.op)/\w'.cell? ⟨g,2,none⟩=some (.int .i64 h.v)/\w'.cell? ⟨g,3,none⟩=some (.int .i64 h.ln)/\w'.cell? ⟨g,4,none⟩=some (.string (st h.nm))/\w'.cell? ⟨g,5,none⟩=some (.slice a ar.len c))) (by kernel_rfl) ⟨by rw[HKK.o];exact p0,p1,p2,p3,p4,p5⟩ (λ hJ=>?_)
 refine tkH 0 61 ?_
 refine tkH 1 62 ?_
 refine tkH 2 63 ?_
 refine tkH 3 64 ?_
 refine rdH 4 λ K0 hK=>?_
 go_simp
 refine(Wu h.op HOP.o.1 HOP.o.2 _).mono ?_
 rintro e w2 ⟨rfl,hb2⟩
 have HX2:=Xj (HXd.o.below hb2)
 refine goH hK (Yq HX2.o.row) λ hJ=>?_
 clear hb2 hK K0
 refine rdH 5 λ K0 hK=>?_
 go_simp
 refine(HP.o _ _ B b t HX2.o.at' HX2.o.bd (by omega) (by simp only[List.length_append,List.length_cons,List.length_nil];omega)).mono ?_
 rintro e w3 ⟨rfl,hb3,hk3⟩
 have HX3:=Xj (HX2.o.next hb3 hk3)
 refine goH hK (Yq HX3.o.row) λ hJ=>?_
 clear hb3 hk3 p00 p0 p1 p2 p3 p4 p5 hK K0
 refine wpAnyH_done (by kernel_rfl) ?_ _
 go_wp2_with fail
 refine bodyPost_ret (results_none rfl _ _ _) rfl ?_
 refine⟨rfl,?_,HX3.o.wk⟩
 have:=HX3.o.bd
 rw[HV.o]
 simpa [List.append_assoc] using this
theorem Mp (h:Hd) (ar:Fo) (hkk:h.k=9) (hE:∀ j x,ar.get j=some x->PE x.1 x.2) (hn:ar.len<=100000):PE h ar:=by
 have hv:Xn h ar=h.nm++Zc ((Yk ar).map (·.2)):=by show Xs h (Yk ar)=_;unfold Xs;simp[hkk]
 have HV:=Xj hv
 have HL:=Xj (Ed ar hE)
 clear hE
 intro W sl B b t ha hb hl
 rw[hv] at hl
 clear hv
 (try simp only[List.length_append,List.length_cons,List.length_nil] at hl)
 obtain⟨a,c,w1,g,rfl,hw1,hg,hX⟩:=Ug (h:=h) ha hb
 have HX:=Xj hX
 obtain⟨p0,p1,p2,p3,p4,p5⟩:=Yq hX.row
 have hlt:=hX.bd.lt
 have hjq:=hX.hc
 rw[hkk] at p0
 clear hX ha hb hkk
 have HXd:=Xj (HX.o.below (Below.refl _ _).drew)
 go_enter Tryz.func51,Tryz.ntmps51
 go_upto_region 22 with fail
 (try rw[hw1])
 (try rw[hg])
 clear hw1 hg
 go_still_tail 5,(by kernel_rfl)
 change wpList _ _ _ _ _ w1.drew
 go_wp2_with fail
 refine(Jx B b t _ _ HXd.o.bd (by first|omega|(simp only[List.length_append,List.length_cons,List.length_nil] at *;omega))).mono ?_
 rintro e w2 ⟨rfl,hb2,hk2⟩
 have HX2:=Xj (HXd.o.next hb2 hk2)
 clear hb2 hk2 p0 p1 p2 p3 p4 p5
 obtain⟨p0,p1,p2,p3,p4,p5⟩:=Yq HX2.o.row
 go_wp2_with fail
 refine(HL.o _ _ _ B b _ HX2.o.at' HX2.o.bd hn (by rw[List.length_append];omega)).mono ?_
 rintro e w3 ⟨rfl,hb3,hk3⟩
 have HX3:=Xj (HX2.o.next hb3 hk3)
 clear hb3 hk3 p0 p1 p2 p3 p4 p5
 go_wp2_with fail
 refine bodyPost_ret (results_none rfl _ _ _) rfl ?_
 refine⟨rfl,?_,HX3.o.wk⟩
 have:=HX3.o.bd
 rw[HV.o]
 simpa [List.append_assoc] using this
theorem Nt {w:World} {B:Nat} {hd:Hd} {bs r:Fo} {b off c c2:Nat} (h:Xv w (λ k=>k<B) (.cons hd bs r) (.slice (some ⟨b,off,none⟩) (r.len+1) c)) (h2:r.len<=c2) (h3:c2<=maxLen):Xv w (λ k=>k<B) r (.slice (some ⟨b,off+6,none⟩) r.len c2):=by
 obtain⟨a',c',rws,e,_,_,_,h4,h5⟩:=h
 injection e with e1 e2 e3
 subst e1 e3
 obtain⟨a1,c1,rw1,cs',rfl,_,_,_,_,_,h6⟩:=h5
 refine⟨some ⟨b,off+6,none⟩,c2,cs',rfl,h2,h3,λ e=>(nomatch e),λ hne=>?_,h6⟩
 obtain⟨b',off',e,hp,hb,hc⟩:=h4 (by simp)
 injection e with e
 injection e with e1 e2
 subst e1 e2
 refine⟨b,off+6,rfl,hp,hb,λ j u hj=>?_⟩
 have:=hc (6+j) u (by
  rw[List.getElem?_append_right (by show 6<=_;omega)]
  show cs'[6+j-6]?=_
  rw[Nat.add_sub_cancel_left];exact hj)
 rw[Nat.add_assoc];exact this
theorem Tx (h:Hd) (s:Bt):enc ([5,6,7,8,13,2,3].contains h.k) s=(if h.k=13\/h.k=2\/h.k=3 then Zq (opd h s) else opd h s):=by
 unfold opd Qh enc
 by_cases h5:h.k=5
 ·simp[h5]
 by_cases h6:h.k=6
 ·simp[h6]
 by_cases h7:h.k=7
 ·simp[h7]
 by_cases h8:h.k=8
 ·simp[h8]
 by_cases h9:h.k=13
 ·simp[h9]
 by_cases h10:h.k=2
 ·simp[h10]
 by_cases h11:h.k=3
 ·simp[h11]
 simp[h5,h6,h7,h8,h9,h10,h11]
theorem Dt (h:Hd) (ar:Fo) (hkk:h.k=10) (x:Hd×Fo) (r:Fo) (har:ar=.cons x.1 x.2 r) (hE:PE x.1 x.2) (hEr:∀ j y,r.get j=some y->PE y.1 y.2) (hn:r.len<=100000):PE h ar:=by
 have hv:Xn h ar=enc ([5,6,7,8,13,2,3].contains x.1.k) (Xn x.1 x.2)++Zc ((Yk r).map (·.2)):=by
  rw[Tx]
  subst har
  show Xs h ((x.1,Xs x.1 (Yk x.2))::Yk r)=_
  show Xs h ((x.1,Xn x.1 x.2)::Yk r)=_
  generalize Xn x.1 x.2=t
  generalize Yk r=os
  unfold Xs
  simp[hkk]
 have Ha:ar.len=r.len+1:=by subst har;rfl
 have HXX:Xq (ar.get 0=some x):=Xj (by subst har;rfl)
 have HV:=Xj hv
 have HAR:=Xj har
 have HE:=Xj hE
 have HL:=Xj (Ed r hEr)
 have hol:(Xn x.1 x.2).length<=(enc ([5,6,7,8,13,2,3].contains x.1.k) (Xn x.1 x.2)).length:=by
  generalize [5,6,7,8,13,2,3].contains x.1.k=q
  cases q
  ·exact Nat.le_refl _
  show _<=(Zq _).length;unfold Zq;simp;omega
 clear hE hEr har
 intro W sl B b t ha hb hl
 rw[hv] at hl
 clear hv
 (try simp only[List.length_append,List.length_cons,List.length_nil] at hl)
 obtain⟨a,c,w1,g,rfl,hw1,hg,hX⟩:=Ug (h:=h) ha hb
 have HX:=Xj hX
 obtain⟨p0,p1,p2,p3,p4,p5⟩:=Yq hX.row
 have hlt:=hX.bd.lt
 have hjq:=hX.hc
 rw[hkk] at p0
 rw[Ha] at p5 hjq
 have HLN:=Xj Ha
 clear hX ha hb hkk Ha
 have HXd:=Xj (HX.o.below (Below.refl _ _).drew)
 go_enter Tryz.func51,Tryz.ntmps51
 go_upto_region 25 with fail
 (try rw[hw1])
 (try rw[hg])
 clear hw1 hg
 obtain⟨b0,o0,as0,cs0,rfl,HA0,k0,k1,k2,k3,k4,k5⟩:=Dh HX.o.at' HXX.o
 have hb2:=Xk w1 (.cells ([5,6,7,8,13,2,3].map (Value.int .i64)).toArray 3)
 have HY:=Xj (HX.o.below hb2)
 have HAB:=Xj (HA0.o.belowB (hb2.mono (by have:=HX.o.bd.lt;omega)))
 have HK:=Xj (Vm x.1 x.2 HE.o [5,6,7,8,13,2,3] _ (.slice as0 x.2.len cs0) B b t w1.heap.size 7 HAB.o HY.o.bd (by decide) (by decide) (heap_alloc_new w1 _) (by omega))
 clear hb2
 go_wp2_with fail
 refine HK.o.mono ?_
 rintro e w3 ⟨rfl,hb3,hk3⟩
 have HX3:=Xj (HY.o.next hb3 hk3)
 clear hb3 hk3 p0 p1 p2 p3 p4 p5 k0 k1 k2 k3 k4 k5
 obtain⟨p0,p1,p2,p3,p4,p5⟩:=Yq HX3.o.row
 rw[HLN.o] at p5
 have HT:Xq (∀ c2,r.len<=c2->c2<=maxLen->Xv w3 (λ k=>k<B) r (.slice (some ⟨b0,o0+6,none⟩) r.len c2)):=Xj (λ c2 h2 h3=>Nt (hd:=x.1) (bs:=x.2) (by
  have:=HX3.o.at'
  rw[HLN.o,HAR.o] at this
  exact this) h2 h3)
 have hcc:c<=9223372036854775807:=hjq.1
 by_cases hr0:r.len=0
 ·have HL0:Xq (∀ a2 c2,c2<=9223372036854775807->Calls Tryz.prog 91 #[.pointer (some ⟨b,0,none⟩),.slice (some a2) 0 c2] w3 (WP B b ((t++enc ([5,6,7,8,13,2,3].contains x.1.k) (Xn x.1 x.2))++Zc ((Yk r).map (·.2))) w3)):=Xj (λ a2 c2 hc2=>by
   cases r with
   | nil=>exact HL.o _ _ _ B b _ ⟨_,c2,[],rfl,Nat.zero_le _,by unfold maxLen;omega,λ e=>(nomatch e),λ h=>absurd rfl h,rfl⟩ HX3.o.bd hn (by rw[List.length_append];omega)
   | cons _ _ _=>simp[Fo.len] at hr0)
  rw[hr0] at p5 hjq
  clear hr0
  go_wp2_with fail
  all_goals (
   refine(HL0.o _ _ (by omega)).mono ?_
   rintro e w4 ⟨rfl,hb4,hk4⟩
   have HX4:=Xj (HX3.o.next hb4 hk4)
   clear hb4 hk4 p0 p1 p2 p3 p4 p5
   go_wp2_with fail
   refine bodyPost_ret (results_none rfl _ _ _) rfl ?_
   refine⟨rfl,?_,HX4.o.wk⟩
   have:=HX4.o.bd
   rw[HV.o]
   simpa [List.append_assoc] using this)
 go_wp2_with fail
 all_goals first|(exfalso;omega)|skip
 refine(HL.o _ _ _ B b _ (HT.o _ (by omega) (by unfold maxLen;omega)) HX3.o.bd hn (by rw[List.length_append];omega)).mono ?_
 rintro e w4 ⟨rfl,hb4,hk4⟩
 have HX4:=Xj (HX3.o.next hb4 hk4)
 clear hb4 hk4 p0 p1 p2 p3 p4 p5
 go_wp2_with fail
 refine bodyPost_ret (results_none rfl _ _ _) rfl ?_
 refine⟨rfl,?_,HX4.o.wk⟩
 have:=HX4.o.bd
 rw[HV.o]
 simpa [List.append_assoc] using this
def prH (h:Hd) (ar:Fo):Prop :=
 (h.k=13\/h.k=2\/h.k=3)\/h.k=12\/h.k=11\/(h.k=1/\0<=h.v/\h.v<=9223372036854775807)\/(h.k=4/\ar.len=1)\/(h.k=5/\0<=h.op/\h.op<=11/\ar.len=1) \/
  (h.k=6/\0<=h.op/\h.op<=11/\ar.len=2)\/(h.k=7/\ar.len=2)\/(h.k=8/\ar.len=2)\/h.k=9\/(h.k=10/\1<=ar.len)
def Fo.pr:Fo->Prop
 | .nil=>True
 | .cons h ar r=>prH h ar/\ar.len<=100000/\ar.pr/\r.pr
theorem Fz (h:Hd) (ar:Fo) (hp:prH h ar) (hn:ar.len<=100000) (hE:∀ j x,ar.get j=some x->PE x.1 x.2):PE h ar:=by
 have g:∀ i,i<ar.len->∃ x,ar.get i=some x:=λ i hi=>Fo.get_lt hi
 rcases hp with hk|hk|hk|⟨hk,h0,h1⟩|⟨hk,hl⟩|⟨hk,h0,h1,hl⟩|⟨hk,h0,h1,hl⟩|⟨hk,hl⟩|⟨hk,hl⟩|hk|⟨hk,hl⟩
 ·exact Mu h ar h.k rfl hk
 ·exact My h ar hk
 ·exact Mb h ar hk
 ·exact Hj h ar hk h0 h1
 ·obtain⟨x,hx⟩:=g 0 (by omega)
  exact Eh h ar hk x hx hl (hE _ _ hx)
 ·obtain⟨x,hx⟩:=g 0 (by omega)
  exact Nj h ar hk h0 h1 x hx hl (hE _ _ hx)
 ·obtain⟨x,hx⟩:=g 0 (by omega)
  obtain⟨y,hy⟩:=g 1 (by omega)
  exact Hq h ar hk h0 h1 x y hx hy hl (hE _ _ hx) (hE _ _ hy)
 ·obtain⟨x,hx⟩:=g 0 (by omega)
  obtain⟨y,hy⟩:=g 1 (by omega)
  exact Tz h ar hk x y hx hy hl (hE _ _ hx) (hE _ _ hy)
 ·obtain⟨x,hx⟩:=g 0 (by omega)
  obtain⟨y,hy⟩:=g 1 (by omega)
  exact Cz h ar hk x y hx hy hl (hE _ _ hx) (hE _ _ hy)
 ·exact Mp h ar hk hE hn
 match ar,hl,hn,hE with
 | .cons f bs r,_,hn,hE=>exact Dt h _ hk (f,bs) r rfl (hE 0 _ rfl) (λ j y hj=>hE (j+1) y hj) (by simp only[Fo.len] at hn;omega)
theorem Fx (F:Fo) (hw:F.pr):∀ j x,F.get j=some x->PE x.1 x.2:=by
 induction F with
 | nil=>intro j x h;cases h
 | cons h ar r ih1 ih2 =>
  intro j x hj
  cases j with
  | zero =>
   have e:(h,ar)=x:=by injection hj
   subst e
   exact Fz h ar hw.1 hw.2.1 (ih1 hw.2.2.1)
  | succ j=>exact ih2 hw.2.2.2 j x hj
theorem Wh (h:Hd) (ar:Fo) (hp:(Xb h ar).pr) (hl:(Xn h ar).length<=90000000) (hne:Xn h ar≠[]) (w:World) (sl:Value) (ha:Xv w (λ _=>True) ar sl) (hw:Lad w) :
  Calls Tryz.prog 16 #[exv h sl] w λ e w'=>e=.returned (.string (st (Xn h ar)))/\Below w.heap.size w w':=by
 have HE:=Xj (Fx _ hp 0 _ rfl)
 have ha2:Xv w (λ k=>k<w.heap.size) ar sl:=ha.keep (λ b _ hb=>⟨rfl,hb⟩) (Nat.le_refl _)
 have HLB:=Xj (LB.of hw)
 obtain⟨B,hB⟩:∃ B,w.heap.size=B:=⟨_,rfl⟩
 rw[hB] at ha2 HLB ⊢
 have HA:=Xj ha2
 obtain⟨a,c,rws,rfl,-⟩:=id ha2
 have hb1:=Xk w (.cells #[.int .i64 h.k,.int .i64 h.op,.int .i64 h.v,.int .i64 h.ln,.string (st h.nm),.slice a ar.len c] 37)
 have hr1:=heap_alloc_new w (.cells #[.int .i64 h.k,.int .i64 h.op,.int .i64 h.v,.int .i64 h.ln,.string (st h.nm),.slice a ar.len c] 37)
 have HNE:=Xj hne
 clear ha ha2 hp hw hne
 go_enter Tryz.func16,Tryz.ntmps16
 go_upto_region 1 with fail
 obtain⟨w1,hw1⟩:∃ W,w.alloc (.cells #[.int .i64 h.k,.int .i64 h.op,.int .i64 h.v,.int .i64 h.ln,.string (st h.nm),.slice a ar.len c] 37)=W:=⟨_,rfl⟩
 rw[hw1] at hb1 hr1
 (try rw[hw1])
 rw[hB] at hb1 hr1
 (try rw[hB])
 have hlt:=Xp hr1
 have HB1:=Xj hb1
 have HR1:=Xj hr1
 have hs1:w1.heap.size=B+1:=by rw[<- hw1,<- hB];simp
 clear hw1 hB hr1 hb1
 have hb2:=Xk w1 (.cells #[.pointer none,.slice none 0 0] 78)
 have hr2:=heap_alloc_new w1 (.cells #[.pointer none,.slice none 0 0] 78)
 rw[hs1] at hr2
 have HD2:Xq (Bd B (B+1) [] (w1.alloc (.cells #[.pointer none,.slice none 0 0] 78))):=Xj ⟨.inl ⟨by omega,.slice none 0 0,hr2,⟨rfl,.inl ⟨rfl,rfl⟩⟩,by simp[Value.ownBlock]⟩,HLB.o.below (HB1.o.trans (hb2.mono (by omega)))⟩
 have HA2:=Xj (HA.o.belowB (HB1.o.trans (hb2.mono (by omega))))
 have HB2:=Xj (HB1.o.trans (hb2.mono (by omega)))
 have HR2:=(hb2.block B hlt).trans HR1.o
 obtain⟨p0,p1,p2,p3,p4,p5⟩:=Yq HR2
 go_upto_region 2 with fail
 obtain⟨w2,hw2⟩:∃ W,w1.alloc (.cells #[.pointer none,.slice none 0 0] 78)=W:=⟨_,rfl⟩
 rw[hw2] at HD2 HA2 HB2 p0 p1 p2 p3 p4 p5 ⊢
 clear hw2 hb2 hr2 HR2 hlt hs1
 go_wp2_with fail
 refine(HE.o _ _ B (B+1) [] HA2.o HD2.o (by simpa using hl)).mono ?_
 rintro e w3 ⟨rfl,hb3,hk3⟩
 rw[List.nil_append] at hb3
 have HD3:=Xj hb3
 have HB3:=Xj (HB2.o.trans hk3.be)
 clear hb3 hk3 p0 p1 p2 p3 p4 p5
 go_wp2_with fail
 refine(Tf B (B+1) _ _ HD3.o.bw HNE.o).mono ?_
 rintro e w4 ⟨rfl,hb4⟩
 have HB4:=Xj (HB3.o.trans hb4)
 clear hb4
 go_wp2_with fail
 refine bodyPost_ret (v:=.string (st (Xn h ar))) (by simp[results,Tryz.results16,go_sem]) rfl ?_
 exact⟨rfl,HB4.o⟩
theorem Gy (os:List (Hd×Bt)):(Zc (os.map (·.2))).length<=tot os+2*os.length+2:=by
 have:=Kh os
 unfold Zc Zq
 simp;omega
theorem Nc {h:Hd} {ar:Fo} (hok:okG h ar) (os:List (Hd×Bt)) (ho:os.length=ar.len):(Xs h os).length<=h.nm.length+30+tot os+4*os.length:=by
 have two:∀ (m:Bt),ar.len=2->m.length<=10->∀ x:Bt,(∃ a b,os=[a,b]/\x=opd a.1 a.2++(m++opd b.1 b.2))->x.length<=30+tot os+4*os.length:=by
  rintro m hl hm x ⟨a,b,rfl,rfl⟩
  have h1:=Zu a.1 a.2
  have h2:=Zu b.1 b.2
  simp only[List.length_append,List.length_cons,List.length_nil,tot]
  omega
 have g2:ar.len=2->∃ a b,os=[a,b]:=λ hl=>by
  match os,ho.trans hl with
  | [a,b],_=>exact⟨a,b,rfl⟩
 have g1:ar.len=1->∃ a,os=[a]:=λ hl=>by
  match os,ho.trans hl with
  | [a],_=>exact⟨a,rfl⟩
 rcases hok with⟨_,_,k⟩|⟨_,k,_,k0,k1,_⟩|⟨_,_,k⟩
 ·rcases k with⟨k,_⟩|⟨k,_⟩|⟨k,_⟩|⟨k,_,hl⟩|⟨k,_,hl⟩|⟨k,_⟩|⟨k,_,g,bs,r0,rfl⟩
  ·have e:Xs h os=h.nm:=by unfold Xs;simp[k]
   rw[e];omega
  ·have e:Xs h os=[114,101,97,100]:=by unfold Xs;simp[k]
   rw[e];simp;omega
  ·have e:Xs h os=38::h.nm:=by unfold Xs;simp[k]
   rw[e];simp;omega
  ·obtain⟨a,rfl⟩:=g1 hl
   have e:Xs h [a]=h.nm++([91]++(a.2++[93])):=by unfold Xs;simp[k]
   rw[e];simp[tot];omega
  ·obtain⟨a,b,hos⟩:=g2 hl
   rcases k with k|k
   ·have:=two [32,38,38,32] hl (by decide) (Xs h os) ⟨a,b,hos,by subst hos;unfold Xs;simp[k]⟩
    omega
   have:=two [32,124,124,32] hl (by decide) (Xs h os) ⟨a,b,hos,by subst hos;unfold Xs;simp[k]⟩
   omega
  ·have e:Xs h os=h.nm++Zc (os.map (·.2)):=by unfold Xs;simp[k]
   have:=Gy os
   rw[e,List.length_append];omega
  match os,ho with
  | a::r,ho =>
   have h1:=Zu a.1 a.2
   have h2:=Gy r
   by_cases hk:a.1.k=13\/a.1.k=2\/a.1.k=3
   ·have e:Xs h (a::r)=Zq (opd a.1 a.2)++Zc (r.map (·.2)):=by unfold Xs;simp[k,hk]
    rw[e,List.length_append]
    unfold Zq
    simp only[List.length_cons,List.length_append,List.length_nil,tot]
    omega
   have e:Xs h (a::r)=opd a.1 a.2++Zc (r.map (·.2)):=by unfold Xs;simp[k,hk]
   rw[e,List.length_append]
   simp only[List.length_cons,tot]
   omega
 ·have e:Xs h os=Lib.decDigits h.v.toNat:=by unfold Xs;simp[k]
  have:=Uv (n:=h.v.toNat) (by omega)
  rw[e];omega
 have hs:=Uc h.op
 rcases k with⟨k,_,_,hl⟩|⟨k,_,_,hl⟩
 ·obtain⟨a,rfl⟩:=g1 hl
  have h1:=Zu a.1 a.2
  have e:Xs h [a]=sgn h.op++opd a.1 a.2:=by unfold Xs;simp[k]
  rw[e,List.length_append];simp only[List.length_cons,List.length_nil,tot];omega
 obtain⟨a,b,hos⟩:=g2 hl
 have:=two ([32]++(sgn h.op++[32])) hl (by simp;omega) (Xs h os) ⟨a,b,hos,by subst hos;unfold Xs;simp[k]⟩
 omega
theorem Ah (F:Fo) (hw:F.wg):tot (Yk F)+4*F.len<=F.ct:=by
 induction F with
 | nil=>simp[Yk,tot,Fo.len,Fo.ct]
 | cons h ar r ih1 ih2 =>
  have h1:=Nc hw.1 (Yk ar) (Zr ar)
  have h2:=ih1 hw.2.1
  have h3:=ih2 hw.2.2
  have h4:=Zr ar
  simp only[Yk,tot,Fo.len,Fo.ct]
  omega
theorem At {h:Hd} {ar:Fo} (hw:(Xb h ar).wg):(Xn h ar).length<=(Xb h ar).ct:=by
 have h1:=Ah (Xb h ar) hw
 simp only[Yk,tot] at h1
 show (Xs h (Yk ar)).length<=_
 omega
theorem Fp {ys:List Tk} (h:∀ x∈ys,Qb x):Yc 60 ys<=61*Yc 0 ys:=by
 induction ys with
 | nil=>simp[Yc]
 | cons x r ih =>
  have h1:=(h x (by simp)).pos
  have h2:=ih (λ y hy=>h y (by simp[hy]))
  simp only[Yc];omega
theorem Aq {T:Bt} {ts:List Tk} {F:Fo} {r:List Tk} (hs:(scan T).1=some ts) (hp:Ps .ex ts (.ok F r)):F.wg/\F.len=1/\F.ct<=61*T.length+60:=by
 obtain⟨ys,ln,rfl,_,hok,hl⟩:=Vx (l:=T) (ts:=ts) (y:=(scan T).2) (by rw[<- hs])
 obtain⟨n,hn⟩:=hp
 have hg:Gt (ys++[⟨0,ln,0,[]⟩]):=λ x hx=>by
  rcases List.mem_append.1 hx with h|h
  ·exact .inl (hok x h)
  simp at h;subst h;exact .inr rfl
 obtain⟨a1,a2,a3,_⟩:=Bp n _ _ _ _ hn hg trivial
 have h1:tw (ys++[⟨0,ln,0,[]⟩])=Yc 60 ys+60:=by unfold tw;rw[Nv];simp[Yc]
 have h2:=Fp hok
 have h3:61*Yc 0 ys<=61*T.length:=Nat.mul_le_mul_left _ hl
 simp only[Lv.ct] at a3
 exact⟨a1,a2 rfl,by omega⟩
theorem Az {h:Hd} {ar:Fo} (hw:(Xb h ar).wg):Xn h ar≠[]/\∃ ts F r,(scan (Xn h ar)).1=some ts/\Ps .ex ts (.ok F r)/\kOf r=0/\eqF false F (Xb h ar)=true:=by
 obtain⟨hx,hne⟩:=LxE.all _ hw 0 _ rfl
 have hP:=(PaE.all _ hw 0 _ rfl).2.1
 have hl:=hx [] [] [] (λ c r2 e=>nomatch e) (Lx.refl [])
 rw[List.append_nil,List.append_nil] at hl
 obtain⟨ys,ln,e1,e2,e3⟩:=hl [] 1
 obtain⟨F,r,p1,p2,p3⟩:=hP (ys++[⟨0,ln,0,[]⟩]) [(0,0,[])] (by unfold unl at e2 ⊢;rw[List.map_append,e2];simp) ⟨[],[],rfl,by decide⟩
 refine⟨by obtain⟨c,r2,e,_⟩:=hne;rw[e];simp,ys++[⟨0,ln,0,[]⟩],F,r,?_,p1,(Xh p2).1,p3⟩
 rw[Pk,e1,Vn]
 rfl
theorem okG.pr {h:Hd} {ar:Fo} (k:okG h ar):prH h ar:=by
 rcases k with⟨_,_,k⟩|⟨_,k,_,k0,k1,_⟩|⟨_,_,k⟩
 ·rcases k with⟨k,_⟩|⟨k,_⟩|⟨k,_⟩|⟨k,_,hl⟩|⟨k,_,hl⟩|⟨k,_⟩|⟨k,_,g,bs,r0,rfl⟩
  ·exact .inl (.inl k)
  ·exact .inr (.inl k)
  ·exact .inr (.inr (.inl k))
  ·exact .inr (.inr (.inr (.inr (.inl ⟨k,hl⟩))))
  ·rcases k with k|k
   ·exact .inr (.inr (.inr (.inr (.inr (.inr (.inr (.inl ⟨k,hl⟩)))))))
   exact .inr (.inr (.inr (.inr (.inr (.inr (.inr (.inr (.inl ⟨k,hl⟩))))))))
  ·exact .inr (.inr (.inr (.inr (.inr (.inr (.inr (.inr (.inr (.inl k)))))))))
  exact .inr (.inr (.inr (.inr (.inr (.inr (.inr (.inr (.inr (.inr ⟨k,by simp[Fo.len]⟩)))))))))
 ·exact .inr (.inr (.inr (.inl ⟨k,k0,k1⟩)))
 rcases k with⟨k,o1,o2,hl⟩|⟨k,o1,o2,hl⟩
 ·exact .inr (.inr (.inr (.inr (.inr (.inl ⟨k,by omega,by omega,hl⟩)))))
 exact .inr (.inr (.inr (.inr (.inr (.inr (.inl ⟨k,by omega,by omega,hl⟩))))))
theorem Fo.len_ct (F:Fo):60*F.len<=F.ct:=by
 induction F with
 | nil=>simp[Fo.len,Fo.ct]
 | cons h ar r _ ih=>simp only[Fo.len,Fo.ct];omega
theorem Fo.wg.pr {F:Fo} (h:F.wg) (hc:F.ct<=1000000):F.pr:=by
 induction F with
 | nil=>trivial
 | cons hd ar r ih1 ih2 =>
  simp only[Fo.ct] at hc
  have:=ar.len_ct
  exact⟨h.1.pr,by omega,ih1 h.2.1 (by omega),ih2 h.2.2 (by omega)⟩
section
inductive PQ where
 | ok (S:Sf) (r:List Tk)
 | bad (r:List Tk)
inductive Lq where
 | st
 | bl
 | bk (S:Sf)
inductive Hk where
 | bad (r:List Tk)
 | val (k:Int) (nm:Bt) (r:List Tk)
 | sto (nm:Bt) (r:List Tk)
 | cho (k:Int) (r:List Tk)
def hk (ts:List Tk):Hk :=
 if isT [118,97,114] ts=true then (if kOf ts.tail=1 then (if isT [61] ts.tail.tail=true then .val 1 (tOf ts.tail) ts.tail.tail.tail else .bad ts.tail.tail) else .bad ts.tail)
 else if isT [105,102] ts=true then .cho 4 ts.tail
 else if isT [119,104,105,108,101] ts=true then .cho 5 ts.tail
 else if isT [114,101,116,117,114,110] ts=true then .val 6 [] ts.tail
 else if isT [112,114,105,110,116] ts=true then .val 7 [] ts.tail
 else if isT [99,97,108,108] ts=true then .val 8 [] ts.tail
 else if kOf ts=1 then (if isT [91] ts.tail=true then .sto (tOf ts) ts.tail.tail else if isT [61] ts.tail=true then .val 2 (tOf ts) ts.tail.tail else .bad ts.tail)
 else .bad ts
def Iq (k ln:Int) (nm:Bt) (F:Fo):PR->PQ
 | .bad r=>.bad r
 | .ok x r=>if isT [59] r=true then .ok (Vh k ln nm (F.app x) .nil .nil) r.tail else .bad r
def bnE (o:Option PR) (k:Fo->List Tk->Option PQ):Option PQ:=match o with
 | none=>none
 | some (.bad r)=>some (.bad r)
 | some (.ok F r)=>k F r
def bnQ (o:Option PQ) (k:Sf->List Tk->Option PQ):Option PQ:=match o with
 | none=>none
 | some (.bad r)=>some (.bad r)
 | some (.ok F r)=>k F r
abbrev elW:Bt:=[101,108,115,101]
def Fg (p:List Tk->Option PR) (f:Lq->List Tk->Option PQ) (ln:Int):Hk->Option PQ
 | .bad r=>some (.bad r)
 | .val k nm r=>(p r).map (Iq k ln nm .nil)
 | .sto nm r=>bnE (p r) λ x r2=>if isT [93] r2=true then (if isT [61] r2.tail=true then (p r2.tail.tail).map (Iq 3 ln nm x) else some (.bad r2.tail)) else some (.bad r2)
 | .cho k r=>bnE (p r) λ x r2=>bnQ (f .bl r2) λ th r3=>if k=4/\isT elW r3=true then bnQ (f .bl r3.tail) (λ el r4=>some (.ok (Vh k ln [] x th el) r4)) else some (.ok (Vh k ln [] x th .nil) r3)
def Kw (p:List Tk->Option PR) (f:Lq->List Tk->Option PQ) (lv:Lq) (ts:List Tk):Option PQ:=match lv with
 | .st=>Fg p f (Yj ts) (hk ts)
 | .bl=>if isT [123] ts=true then f (.bk .nil) ts.tail else some (.bad ts)
 | .bk S=>if isT [125] ts=true then some (.ok S ts.tail) else bnQ (f .st ts) λ s r=>f (.bk (S.app s)) r
def Qn:Nat->Lq->List Tk->Option PQ
 | 0=>λ _ _=>none
 | n+1=>Kw (Pn n .ex) (Qn n)
theorem Gf {o o':Option PR} {k k':Fo->List Tk->Option PQ} {y:PQ} (h:bnE o k=some y) (ho:∀ x,o=some x->o'=some x) (hk:∀ F r,k F r=some y->k' F r=some y):bnE o' k'=some y:=by
 unfold bnE at h ⊢
 cases o with
 | none=>cases h
 | some x =>
  rw[ho x rfl]
  cases x with
  | ok F r=>exact hk F r h
  | bad r=>exact h
theorem Kl {o o':Option PQ} {k k':Sf->List Tk->Option PQ} {y:PQ} (h:bnQ o k=some y) (ho:∀ x,o=some x->o'=some x) (hk:∀ F r,k F r=some y->k' F r=some y):bnQ o' k'=some y:=by
 unfold bnQ at h ⊢
 cases o with
 | none=>cases h
 | some x =>
  rw[ho x rfl]
  cases x with
  | ok F r=>exact hk F r h
  | bad r=>exact h
theorem Gk {o o':Option PR} {g:PR->PQ} {y:PQ} (h:o.map g=some y) (ho:∀ x,o=some x->o'=some x):o'.map g=some y:=by
 cases o with
 | none=>cases h
 | some x=>rw[ho x rfl];exact h
theorem Hw {p p':List Tk->Option PR} {f g:Lq->List Tk->Option PQ} (hp:∀ ts y,p ts=some y->p' ts=some y) (hfg:∀ lv ts y,f lv ts=some y->g lv ts=some y) (lv:Lq) (ts:List Tk) (y:PQ) (h:Kw p f lv ts=some y):Kw p' g lv ts=some y:=by
 cases lv with
 | st =>
  unfold Kw at h ⊢
  dsimp only at h ⊢
  generalize hk ts=q at h ⊢
  cases q with
  | bad r=>exact h
  | val k nm r=>exact Gk h λ x hx=>hp _ x hx
  | sto nm r =>
   refine Gf h (λ x hx=>hp _ x hx) λ F r h=>?_
   split
   ·rename_i h1
    rw[if_pos h1] at h
    split
    ·rename_i h2
     rw[if_pos h2] at h
     exact Gk h λ x hx=>hp _ x hx
    rename_i h2
    rw[if_neg h2] at h
    exact h
   rename_i h1
   rw[if_neg h1] at h
   exact h
  | cho k r =>
   refine Gf h (λ x hx=>hp _ x hx) λ F r h=>Kl h (λ x hx=>hfg _ _ x hx) λ S r2 h=>?_
   split
   ·rename_i h1
    rw[if_pos h1] at h
    exact Kl h (λ x hx=>hfg _ _ x hx) λ _ _ h=>h
   rename_i h1
   rw[if_neg h1] at h
   exact h
 | bl =>
  unfold Kw at h ⊢
  dsimp only at h ⊢
  split
  ·rename_i h1;rw[if_pos h1] at h;exact hfg _ _ _ h
  rename_i h1;rw[if_neg h1] at h;exact h
 | bk S =>
  unfold Kw at h ⊢
  dsimp only at h ⊢
  split
  ·rename_i h1;rw[if_pos h1] at h;exact h
  rename_i h1;rw[if_neg h1] at h;exact Kl h (λ x hx=>hfg _ _ x hx) λ _ _ h=>hfg _ _ _ h
theorem Bb (n:Nat):∀ lv ts y,Qn n lv ts=some y->Qn (n+1) lv ts=some y:=by
 induction n with
 | zero=>intro lv ts y h;cases h
 | succ n ih=>intro lv ts y h;exact Hw (λ ts y=>Ds n .ex ts y) ih lv ts y h
theorem Br {n m:Nat} (h:n<=m) {lv:Lq} {ts:List Tk} {y:PQ} (hn:Qn n lv ts=some y):Qn m lv ts=some y:=by
 induction h with
 | refl=>exact hn
 | step _ ih=>exact Bb _ _ _ _ ih
def Qs (lv:Lq) (ts:List Tk) (y:PQ):Prop:=∃ n,Qn n lv ts=some y
theorem Qs.det {lv:Lq} {ts:List Tk} {y z:PQ} (h:Qs lv ts y) (k:Qs lv ts z):y=z:=by
 obtain⟨n,hn⟩:=h
 obtain⟨m,hm⟩:=k
 have h1:=Br (Nat.le_max_left n m) hn
 have h2:=Br (Nat.le_max_right n m) hm
 rw[h1] at h2
 injection h2
theorem Qs.ev {lv:Lq} {ts:List Tk} {y:PQ} (h:∃ n0,∀ n,n0<=n->Kw (Pn n .ex) (Qn n) lv ts=some y):Qs lv ts y:=by
 obtain⟨n0,h⟩:=h
 exact⟨n0+1,h n0 (Nat.le_refl _)⟩
theorem Ps.ev {lv:Lv} {ts:List Tk} {y:PR} (h:Ps lv ts y):∃ n0,∀ n,n0<=n->Pn n lv ts=some y:=by
 obtain⟨n0,h⟩:=h
 exact⟨n0,λ n hn=>Gn hn h⟩
section
variable {ts r r2 r3:List Tk} {k:Int} {nm:Bt} {x:Fo} {S th el s:Sf} {y:PR} {z:PQ}
end
end
section
section
variable {ts:List Tk}
theorem Ab {s t:Bt} (h:isT s ts=true) (hn:s≠t):isT t ts=false:=by
 cases ts with
 | nil=>rfl
 | cons x r =>
  simp only[isT,Bool.and_eq_true,beq_iff_eq] at h
  cases hk:isT t (x::r)
  ·rfl
  simp only[isT,Bool.and_eq_true,beq_iff_eq] at hk
  exact absurd (h.2.symm.trans hk.2) hn
end
inductive PG where
 | ok (nm:Bt) (sz wr:Int) (r:List Tk)
 | bad (r:List Tk)
def wrOf (v ln wr:Int):Int:=if (v<1\/1024<v)/\wr=0 then ln else wr
def glP (wr:Int) (ts:List Tk):PG :=
 if kOf ts=1 then
  (if isT [91] ts.tail=true then
   (if kOf ts.tail.tail=2 then
    (if isT [93] ts.tail.tail.tail=true then
     (if isT [59] ts.tail.tail.tail.tail=true then .ok (tOf ts) (vOf ts.tail.tail) (wrOf (vOf ts.tail.tail) (Yj ts.tail.tail) wr) ts.tail.tail.tail.tail.tail else .bad ts.tail.tail.tail.tail)
    else .bad ts.tail.tail.tail)
   else .bad ts.tail.tail)
  else if isT [59] ts.tail=true then .ok (tOf ts) 0 wr ts.tail.tail else .bad ts.tail)
 else .bad ts
inductive PP where
 | ok (ps:List Bt) (r:List Tk)
 | bad (r:List Tk)
def uP (ps:List Bt) (ts:List Tk):List Tk:=if ps=[] then ts else ts.tail
def paF:Nat->List Bt->List Tk->Option PP
 | 0,_,_=>none
 | n+1,ps,ts=>if isT [41] ts=true then some (.ok ps ts.tail)
   else if ps≠[]/\isT [44] ts=false then some (.bad ts)
   else if kOf (uP ps ts)=1 then paF n (ps++[tOf (uP ps ts)]) (uP ps ts).tail else some (.bad (uP ps ts))
theorem Pt (n:Nat):∀ ps ts y,paF n ps ts=some y->paF (n+1) ps ts=some y:=by
 induction n with
 | zero=>intro ps ts y h;cases h
 | succ n ih =>
  intro ps ts y h
  unfold paF at h ⊢
  split
  ·rename_i h1;rw[if_pos h1] at h;exact h
  rename_i h1
  rw[if_neg h1] at h
  split
  ·rename_i h2;rw[if_pos h2] at h;exact h
  rename_i h2
  rw[if_neg h2] at h
  split
  ·rename_i h3;rw[if_pos h3] at h;exact ih _ _ _ h
  rename_i h3;rw[if_neg h3] at h;exact h
theorem Rj {n m:Nat} (h:n<=m) {ps:List Bt} {ts:List Tk} {y:PP} (hn:paF n ps ts=some y):paF m ps ts=some y:=by
 induction h with
 | refl=>exact hn
 | step _ ih=>exact Pt _ _ _ _ ih
def Pr (ps:List Bt) (ts:List Tk) (y:PP):Prop:=∃ n,paF n ps ts=some y
theorem Pr.det {ps:List Bt} {ts:List Tk} {y z:PP} (h:Pr ps ts y) (k:Pr ps ts z):y=z:=by
 obtain⟨n,hn⟩:=h
 obtain⟨m,hm⟩:=k
 have h1:=Rj (Nat.le_max_left n m) hn
 have h2:=Rj (Nat.le_max_right n m) hm
 rw[h1] at h2
 injection h2
theorem Pr.fin {ps:List Bt} {ts:List Tk} (h:isT [41] ts=true):Pr ps ts (.ok ps ts.tail):=⟨1,by unfold paF;rw[if_pos h]⟩
theorem Pr.no {ps:List Bt} {ts:List Tk} (h:isT [41] ts=false) (h2:ps≠[]) (h3:isT [44] ts=false):Pr ps ts (.bad ts):=⟨1,by unfold paF;rw[if_neg (by rw[h];simp),if_pos ⟨h2,h3⟩]⟩
theorem Pr.nm {ps:List Bt} {ts u:List Tk} (h:isT [41] ts=false) (h2:ps≠[]->isT [44] ts=true) (hu:u=uP ps ts) (hk:kOf u≠1):Pr ps ts (.bad u):=⟨1,by
 unfold paF
 rw[if_neg (by rw[h];simp),if_neg (by intro e;rw[h2 e.1] at e;cases e.2),if_neg (by rw[<- hu];exact hk),hu]⟩
theorem Pr.more {ps:List Bt} {ts u:List Tk} {y:PP} (h:isT [41] ts=false) (h2:ps≠[]->isT [44] ts=true) (hu:u=uP ps ts) (hk:kOf u=1) (k:Pr (ps++[tOf u]) u.tail y):Pr ps ts y:=by
 obtain⟨n,hn⟩:=k
 refine⟨n+1,?_⟩
 unfold paF
 rw[if_neg (by rw[h];simp),if_neg (by intro e;rw[h2 e.1] at e;cases e.2),if_pos (by rw[<- hu];exact hk),<- hu]
 exact hn
inductive PF where
 | ok (nm:Bt) (ps:List Bt) (S:Sf) (r:List Tk)
 | bad (r:List Tk)
inductive Fs (ts:List Tk):PF->Prop where
 | name (h:kOf ts≠1):Fs ts (.bad ts)
 | par (h:kOf ts=1) (h2:isT [40] ts.tail=false):Fs ts (.bad ts.tail)
 | pbad {r:List Tk} (h:kOf ts=1) (h2:isT [40] ts.tail=true) (h3:Pr [] ts.tail.tail (.bad r)):Fs ts (.bad r)
 | bbad {ps:List Bt} {r r2:List Tk} (h:kOf ts=1) (h2:isT [40] ts.tail=true) (h3:Pr [] ts.tail.tail (.ok ps r)) (h4:Qs .bl r (.bad r2)):Fs ts (.bad r2)
 | ok {ps:List Bt} {S:Sf} {r r2:List Tk} (h:kOf ts=1) (h2:isT [40] ts.tail=true) (h3:Pr [] ts.tail.tail (.ok ps r)) (h4:Qs .bl r (.ok S r2)):Fs ts (.ok (tOf ts) ps S r2)
theorem Fs.det {ts:List Tk} {y z:PF} (h:Fs ts y) (k:Fs ts z):y=z:=by
 cases h with
 | name a1=>cases k<;>first|rfl|(exact absurd (by assumption) a1)
 | par a1 a2=>cases k<;>first|rfl|(exact absurd a1 (by assumption))|(rename_i b1 b2 _ ;rw[a2] at b2;cases b2)|(rename_i b1 b2 _ _;rw[a2] at b2;cases b2)
 | pbad a1 a2 a3 =>
  cases k with
  | name b1=>exact absurd a1 b1
  | par b1 b2=>rw[a2] at b2;cases b2
  | pbad b1 b2 b3=>have:=a3.det b3;injection this with this;rw[this]
  | bbad b1 b2 b3 b4=>have:=a3.det b3;cases this
  | ok b1 b2 b3 b4=>have:=a3.det b3;cases this
 | bbad a1 a2 a3 a4 =>
  cases k with
  | name b1=>exact absurd a1 b1
  | par b1 b2=>rw[a2] at b2;cases b2
  | pbad b1 b2 b3=>have:=a3.det b3;cases this
  | bbad b1 b2 b3 b4=>have:=a3.det b3;injection this with _ this;subst this;have:=a4.det b4;injection this with this;rw[this]
  | ok b1 b2 b3 b4=>have:=a3.det b3;injection this with _ this;subst this;have:=a4.det b4;cases this
 | ok a1 a2 a3 a4 =>
  cases k with
  | name b1=>exact absurd a1 b1
  | par b1 b2=>rw[a2] at b2;cases b2
  | pbad b1 b2 b3=>have:=a3.det b3;cases this
  | bbad b1 b2 b3 b4=>have:=a3.det b3;injection this with _ this;subst this;have:=a4.det b4;cases this
  | ok b1 b2 b3 b4=>have:=a3.det b3;injection this with t1 this;subst t1 this;have:=a4.det b4;injection this with t2 t3;rw[t2,t3]
structure Fu where
 nm:Bt
 ln:Int
 ps:List Bt
 S:Sf
inductive PO where
 | ok (gs:List (Bt×Int)) (fs:List Fu) (wr:Int) (r:List Tk)
 | bad (r:List Tk)
abbrev glW:Bt:=[103,108,111,98,97,108]
abbrev fnW:Bt:=[102,117,110,99]
inductive So:Int->List (Bt×Int)->List Fu->List Tk->PO->Prop where
 | fin {wr:Int} {gs:List (Bt×Int)} {fs:List Fu} {ts:List Tk} (h:kOf ts=0):So wr gs fs ts (.ok gs fs wr ts)
 | gl {wr wr2 sz:Int} {gs:List (Bt×Int)} {fs:List Fu} {ts r:List Tk} {nm:Bt} {y:PO} (h:isT glW ts=true) (h2:glP wr ts.tail=.ok nm sz wr2 r) (k:So wr2 (gs++[(nm,sz)]) fs r y):So wr gs fs ts y
 | glb {wr:Int} {gs:List (Bt×Int)} {fs:List Fu} {ts r:List Tk} (h:isT glW ts=true) (h2:glP wr ts.tail=.bad r):So wr gs fs ts (.bad r)
 | fn {wr:Int} {gs:List (Bt×Int)} {fs:List Fu} {ts r:List Tk} {nm:Bt} {ps:List Bt} {S:Sf} {y:PO} (h:isT fnW ts=true) (h2:Fs ts.tail (.ok nm ps S r)) (k:So wr gs (fs++[⟨nm,Yj ts,ps,S⟩]) r y):So wr gs fs ts y
 | fnb {wr:Int} {gs:List (Bt×Int)} {fs:List Fu} {ts r:List Tk} (h:isT fnW ts=true) (h2:Fs ts.tail (.bad r)):So wr gs fs ts (.bad r)
 | no {wr:Int} {gs:List (Bt×Int)} {fs:List Fu} {ts:List Tk} (h:kOf ts≠0) (h1:isT glW ts=false) (h2:isT fnW ts=false):So wr gs fs ts (.bad ts)
theorem Vp {ts:List Tk} (h:isT glW ts=true) (k:isT fnW ts=true):False:=by
 have:=Ab h (t:=fnW) (by decide)
 rw[k] at this
 cases this
theorem So.det {wr:Int} {gs:List (Bt×Int)} {fs:List Fu} {ts:List Tk} {y z:PO} (h:So wr gs fs ts y) (k:So wr gs fs ts z):y=z:=by
 induction h generalizing z with
 | fin h =>
  cases k with
  | fin _=>rfl
  | gl h2=>exact absurd h (Ys h2).2.2.1
  | glb h2=>exact absurd h (Ys h2).2.2.1
  | fn h2=>exact absurd h (Ys h2).2.2.1
  | fnb h2=>exact absurd h (Ys h2).2.2.1
  | no h2=>exact absurd h h2
 | gl h h2 _ ih =>
  cases k with
  | fin h3=>exact absurd h3 (Ys h).2.2.1
  | gl h3 h4 h5 =>
   rw[h2] at h4
   injection h4 with e1 e2 e3 e4
   subst e1 e2 e3 e4
   exact ih h5
  | glb h3 h4=>rw[h2] at h4;cases h4
  | fn h3=>exact(Vp h h3).elim
  | fnb h3=>exact(Vp h h3).elim
  | no _ h3=>rw[h] at h3;cases h3
 | glb h h2 =>
  cases k with
  | fin h3=>exact absurd h3 (Ys h).2.2.1
  | gl h3 h4 h5=>rw[h2] at h4;cases h4
  | glb h3 h4=>rw[h2] at h4;injection h4 with e;rw[e]
  | fn h3=>exact(Vp h h3).elim
  | fnb h3=>exact(Vp h h3).elim
  | no _ h3=>rw[h] at h3;cases h3
 | fn h h2 _ ih =>
  cases k with
  | fin h3=>exact absurd h3 (Ys h).2.2.1
  | gl h3=>exact(Vp h3 h).elim
  | glb h3=>exact(Vp h3 h).elim
  | fn h3 h4 h5 =>
   have e:=h2.det h4
   injection e with e1 e2 e3 e4
   subst e1 e2 e3 e4
   exact ih h5
  | fnb h3 h4=>have e:=h2.det h4;cases e
  | no _ _ h3=>rw[h] at h3;cases h3
 | fnb h h2 =>
  cases k with
  | fin h3=>exact absurd h3 (Ys h).2.2.1
  | gl h3=>exact(Vp h3 h).elim
  | glb h3=>exact(Vp h3 h).elim
  | fn h3 h4 h5=>have e:=h2.det h4;cases e
  | fnb h3 h4=>have e:=h2.det h4;injection e with e;rw[e]
  | no _ _ h3=>rw[h] at h3;cases h3
 | no h h1 h2 =>
  cases k with
  | fin h3=>exact absurd h3 h
  | gl h3=>rw[h1] at h3;cases h3
  | glb h3=>rw[h1] at h3;cases h3
  | fn h3=>rw[h2] at h3;cases h3
  | fnb h3=>rw[h2] at h3;cases h3
  | no _ _ _=>rfl
end
theorem Sf.app_asc (F G H:Sf):(F.app G).app H=F.app (G.app H):=by
 induction F with
 | nil=>rfl
 | cons k ln nm xs th el r _ _ ih=>show Sf.cons k ln nm xs th el _=Sf.cons k ln nm xs th el _;rw[ih]
theorem Sf.app_nil2 (F:Sf):F.app .nil=F:=by
 induction F with
 | nil=>rfl
 | cons k ln nm xs th el r _ _ ih=>show Sf.cons k ln nm xs th el _=Sf.cons k ln nm xs th el _;rw[ih]
theorem Sj {l:Bool} (F G:Fo) (h:eqF l F G=true):eqF l G F=true:=by
 induction F generalizing G with
 | nil =>
  cases G with
  | nil=>rfl
  | cons _ _ _=>cases h
 | cons h1 a1 r1 i1 i2 =>
  cases G with
  | nil=>cases h
  | cons h2 a2 r2 =>
   simp only[eqF,Bool.and_eq_true,Bool.or_eq_true,beq_iff_eq] at h ⊢
   obtain⟨⟨h1,h2,h3,h4,h5,h6⟩,h7⟩:=h
   exact⟨⟨h1.symm,h2.symm,h3.symm,h4.symm,by rcases h5 with h5|h5;exact .inl h5;exact .inr h5.symm,i1 _ h6⟩,i2 _ h7⟩
structure PC where
 g:Nat
 al:Option Addr
 cl:Nat
 ts:List Tk
 wr:Int
structure PAt (w:World) (K:PC) (at_:Nat) (rest:List Tk):Prop where
 row:w.heap[K.g]?=some (.cells #[.slice K.al K.ts.length K.cl,.int .i64 (at_:Int),.int .i64 K.wr] 99 (0,0))
 tk:Tks w K.al K.ts
 ne:∀ x,K.al=some x->x.block≠K.g
 dr:K.ts.drop at_=rest
 en:Qv rest
 cap:K.ts.length<=K.cl/\K.cl<=maxLen
 n:K.ts.length<=100000
theorem PAt.lt {w:World} {K:PC} {at_:Nat} {rest:List Tk} (h:PAt w K at_ rest):at_<K.ts.length/\K.ts.length=at_+rest.length:=by
 obtain⟨x,r,e⟩:=h.en.cons
 have h1:=h.dr
 rw[e] at h1
 have h2:=congrArg List.length h1
 rw[List.length_drop,List.length_cons] at h2
 rw[e,List.length_cons]
 omega
theorem PAt.glt {w:World} {K:PC} {at_:Nat} {rest:List Tk} (h:PAt w K at_ rest):K.g<w.heap.size:=Xp h.row
theorem PAt.grown {w w':World} {K:PC} {at_:Nat} {rest:List Tk} {r:Option Nat} (h:PAt w K at_ rest) (hg:w.grownBy w' r) (hr:∀ k,r=some k->k≠K.g/\∀ x,K.al=some x->x.block≠k):PAt w' K at_ rest :=
 {h with
  row:=(hg.block K.g h.glt (λ e=>(hr K.g e.symm).1 rfl)).trans h.row
  tk:=λ j x hj=>by
   obtain⟨b,off,e,hb,h0,h1,h2,h3⟩:=h.tk j x hj
   have key:w'.heap[b]?=w.heap[b]?:=hg.block b hb (λ e2=>(hr b e2.symm).2 _ e rfl)
   have kc:∀ o,w'.cell? ⟨b,o,none⟩=w.cell? ⟨b,o,none⟩:=λ o=>World.cell?_of_block (a:=⟨b,o,none⟩) key
   exact⟨b,off,e,by have:=hg.size;omega,(kc _).trans h0,(kc _).trans h1,(kc _).trans h2,(kc _).trans h3⟩ }
theorem PAt.below {w w':World} {K:PC} {at_:Nat} {rest:List Tk} (h:PAt w K at_ rest) (hb:Below w.heap.size w w'):PAt w' K at_ rest:=h.grown (Xm hb none) (λ k e=>by cases e)
theorem PAt.tok {w:World} {K:PC} {at_:Nat} {rest:List Tk} (h:PAt w K at_ rest):∃ x r b off,rest=x::r/\K.al=some ⟨b,off,none⟩/\b<w.heap.size/\b≠K.g /\
  w.cell? ⟨b,off+at_*4,none⟩=some (.int .i64 x.k)/\w.cell? ⟨b,off+at_*4+1,none⟩=some (.int .i64 x.n)/\w.cell? ⟨b,off+at_*4+2,none⟩=some (.int .i64 x.v)/\w.cell? ⟨b,off+at_*4+3,none⟩=some (.string (st x.t)):=by
 obtain⟨x,r,e⟩:=h.en.cons
 have h1:=h.dr
 rw[e] at h1
 have hx:K.ts[at_]?=some x:=by
  have:=congrArg (λ l=>l[0]?) h1
  simpa using this
 obtain⟨b,off,e2,hb,h0,h2,h3,h4⟩:=h.tk at_ x hx
 exact⟨x,r,b,off,e,e2,hb,h.ne _ e2,h0,h2,h3,h4⟩
theorem PAt.step {w:World} {K:PC} {at_:Nat} {rest:List Tk} (h:PAt w K at_ rest) (hk:kOf rest≠0):PAt (w.setCell ⟨K.g,1,none⟩ (.int .i64 ((at_:Int)+1))) K (at_+1) rest.tail :=
 have hjp:=Xc w K.g 1 (.int .i64 ((at_:Int)+1))
 {row:=heap_setCell_same w K.g 1 _ _ _ h.row
  tk:=λ j x hj=>by
   obtain⟨b,off,e,hb,h0,h1,h2,h3⟩:=h.tk j x hj
   have key:(w.setCell ⟨K.g,1,none⟩ (.int .i64 ((at_:Int)+1))).heap[b]?=w.heap[b]?:=hjp.block b hb (λ e2=>by injection e2 with e2;exact h.ne _ e e2)
   have kc:∀ o,(w.setCell ⟨K.g,1,none⟩ (.int .i64 ((at_:Int)+1))).cell? ⟨b,o,none⟩=w.cell? ⟨b,o,none⟩:=λ o=>World.cell?_of_block (a:=⟨b,o,none⟩) key
   exact⟨b,off,e,by have:=hjp.size;omega,(kc _).trans h0,(kc _).trans h1,(kc _).trans h2,(kc _).trans h3⟩
  ne:=h.ne
  dr:=by rw[<- h.dr,List.tail_drop]
  en:=h.en.kOf hk
  cap:=h.cap
  n:=h.n }
theorem PAt.cells {w:World} {K:PC} {at_:Nat} {rest:List Tk} (h:PAt w K at_ rest):w.cell? ⟨K.g,0,none⟩=some (.slice K.al K.ts.length K.cl)/\w.cell? ⟨K.g,1,none⟩=some (.int .i64 (at_:Int))/\w.cell? ⟨K.g,2,none⟩=some (.int .i64 K.wr) /\
  w.frozen? ⟨K.g,1,none⟩=false/\w.frozen? ⟨K.g,2,none⟩=false/\K.g<w.heap.size :=
 ⟨cell_of_row _ _ 0 _ _ _ h.row,cell_of_row _ _ 1 _ _ _ h.row,cell_of_row _ _ 2 _ _ _ h.row,frozen_of_row _ _ 1 _ _ h.row,frozen_of_row _ _ 2 _ _ h.row,h.glt⟩
abbrev Hx (x:Tk):Value:=.agg #[.int .i64 x.k,.int .i64 x.n,.int .i64 x.v,.string (st x.t)]
def hdT:List Tk->Tk
 | x::_=>x
 | []=>⟨0,0,0,[]⟩
theorem Rb (K:PC) (at_:Nat) (rest:List Tk) (w:World) (h:PAt w K at_ rest):Calls Tryz.prog 57 #[.pointer (some ⟨K.g,0,none⟩)] w λ e w'=>e=.returned (Hx (hdT rest))/\Below w.heap.size w w':=by
 have hlt:=h.lt.1
 have hjq:=h.cap
 have hn:=h.n
 have hr:=heap_alloc_new w (.cells #[.int .i64 0,.int .i64 0,.int .i64 0,.string ⟨#[]⟩] 103)
 have hbA:=Xk w (.cells #[.int .i64 0,.int .i64 0,.int .i64 0,.string ⟨#[]⟩] 103)
 have hqx:=h.glt
 obtain⟨x,r,b,off,rfl,hal,hb,hbg,t0,t1,t2,t3⟩:=h.tok
 obtain⟨p0,p1,-,-,-,-⟩:=h.cells
 rw[hal] at p0
 have q0:=(hbA.cell (p:=⟨K.g,0,none⟩) hqx).trans p0
 have q1:=(hbA.cell (p:=⟨K.g,1,none⟩) hqx).trans p1
 have s0:=(hbA.cell (p:=⟨b,off+at_*4,none⟩) hb).trans t0
 have s1:=(hbA.cell (p:=⟨b,off+at_*4+1,none⟩) hb).trans t1
 have s2:=(hbA.cell (p:=⟨b,off+at_*4+2,none⟩) hb).trans t2
 have s3:=(hbA.cell (p:=⟨b,off+at_*4+3,none⟩) hb).trans t3
 obtain⟨k,n,v,tt⟩:=x
 dsimp only at *
 obtain⟨g,hg⟩:∃ g,K.g=g:=⟨_,rfl⟩
 obtain⟨N,hN⟩:∃ N,K.ts.length=N:=⟨_,rfl⟩
 obtain⟨cl,hcl⟩:∃ c,K.cl=c:=⟨_,rfl⟩
 rw[hN,hcl] at hjq q0
 rw[hN] at hlt hn
 rw[hg] at q0 q1 hqx hbg ⊢
 have hcl2:cl<=9223372036854775807:=by have:=hjq.2;unfold maxLen at this;omega
 have hqf:(at_:Int)<(N:Int):=by omega
 clear h hal p0 p1 t0 t1 t2 t3 hN hcl hg
 go_enter Tryz.func57,Tryz.ntmps57
 go_upto_region 1 with fail
 obtain⟨w1,hw1⟩:∃ W,w.alloc (.cells #[.int .i64 0,.int .i64 0,.int .i64 0,.string ⟨#[]⟩] 103)=W:=⟨_,rfl⟩
 obtain⟨gr,hgr⟩:∃ x,w.heap.size=x:=⟨_,rfl⟩
 rw[hw1] at hr hbA q0 q1 s0 s1 s2 s3 ⊢
 rw[hgr] at hr hqx hb
 (try rw[hgr])
 have HB:=Xj (And.intro hbA hgr)
 have HR:=Xj hr
 have n1:gr≠g:=by omega
 have n2:gr≠b:=by omega
 clear hw1 hgr hbA hr
 refine wp_region_held_drew (S:=(λ w'=>w'.cell? ⟨g,0,none⟩=some (.slice (some ⟨b,off,none⟩) N cl)/\w'.cell? ⟨g,1,none⟩=some (.int .i64 (at_:Int))/\w'.cell? ⟨b,off+at_*4,none⟩=some (.int .i64 k)/\w'.cell? ⟨b,off+at_*4+1,none⟩=some (.int .i64 n)/\w'.cell? ⟨b,off+at_*4+2,none⟩=some (.int .i64 v)/\w'.cell? ⟨b,off+at_*4+3,none⟩=some (.string (st tt)))) (by kernel_rfl) ⟨q0,q1,s0,s1,s2,s3⟩ (λ hJ=>?_)
 refine tkH 0 3 ?_
 refine tkH 1 4 ?_
 refine tkH 2 5 ?_
 refine tkH 3 6 ?_
 refine tkH 4 7 ?_
 refine tkH 5 8 ?_
 refine tkH 6 9 ?_
 refine tkH 7 10 ?_
 refine tkH 8 11 ?_
 refine tkH 9 12 ?_
 refine rdH 10 λ K0 hK=>?_
 have c0:=cell_of_row _ _ 0 _ _ _ HR.o
 have c1:=cell_of_row _ _ 1 _ _ _ HR.o
 have c2:=cell_of_row _ _ 2 _ _ _ HR.o
 have c3:=cell_of_row _ _ 3 _ _ _ HR.o
 have f0:=frozen_of_row _ gr 0 _ _ HR.o
 have f1:=frozen_of_row _ gr 1 _ _ HR.o
 have f2:=frozen_of_row _ gr 2 _ _ HR.o
 have f3:=frozen_of_row _ gr 3 _ _ HR.o
 have jl:=Xp HR.o
 go_simp
 refine goH hK ⟨Xf n1 hJ.1,Xf n1 hJ.2.1,Xf n2 hJ.2.2.1,Xf n2 hJ.2.2.2.1,Xf n2 hJ.2.2.2.2.1,Xf n2 hJ.2.2.2.2.2⟩ λ hJ=>?_
 clear hK K0
 refine wpAnyH_done (by kernel_rfl) ?_ _
 refine Xz ?_
 have hY:=Ym (w:=w1) (v0:=.int .i64 k) (v1:=.int .i64 n) (v2:=.int .i64 v) (v3:=.string (st tt)) HR.o
 have Hi:=(Yp (w:=w1) (B:=w.heap.size) (w0:=w) (b:=gr) (v0:=.int .i64 k) (v1:=.int .i64 n) (v2:=.int .i64 v) (v3:=.string (st tt)) HB.o.1 (by rw[HB.o.2];exact Nat.le_refl _)).drew
 have hY:(set4 w1 gr (.int .i64 k) (.int .i64 n) (.int .i64 v) (.string (st tt))).drew.heap[gr]?=some (.cells #[.int .i64 k,.int .i64 n,.int .i64 v,.string (st tt)] 103 (0,0)):=hY
 have d0:=cell_of_row _ _ 0 _ _ _ hY
 have d1:=cell_of_row _ _ 1 _ _ _ hY
 have d2:=cell_of_row _ _ 2 _ _ _ hY
 have d3:=cell_of_row _ _ 3 _ _ _ hY
 have Ho:=Xj Hi
 obtain⟨wn,hwn⟩:∃ wn,(set4 w1 gr (.int .i64 k) (.int .i64 n) (.int .i64 v) (.string (st tt))).drew=wn:=⟨_,rfl⟩
 have He:=hwn
 unfold set4 at He
 rw[He]
 rw[hwn] at Ho d0 d1 d2 d3
 clear hwn He hY Hi c0 c1 c2 c3 f0 f1 f2 f3 jl hJ q0 q1 s0 s1 s2 s3
 go_wp2_with fail
 refine bodyPost_ret (v:=.agg #[.int .i64 k,.int .i64 n,.int .i64 v,.string (st tt)]) (by simp[results,Tryz.results57,go_sem,d0,d1,d2,d3]) rfl ?_
 exact⟨rfl,Ho.o⟩
theorem Zv (K:PC) (at_:Nat) (k n v:Int) (tt:Bt) (r:List Tk) (w:World) (h:PAt w K at_ (⟨k,n,v,tt⟩::r)):Calls Tryz.prog 57 #[.pointer (some ⟨K.g,0,none⟩)] w λ e w'=>e=.returned (.agg #[.int .i64 k,.int .i64 n,.int .i64 v,.string (st tt)])/\Below w.heap.size w w':=Rb K at_ _ w h
theorem Ez (K:PC) (at_:Nat) (rest:List Tk) (t:Bt) (w:World) (h:PAt w K at_ rest):Calls Tryz.prog 98 #[.pointer (some ⟨K.g,0,none⟩),.string (st t)] w λ e w'=>e=.returned (.bool (isT t rest))/\Below w.heap.size w w':=by
 obtain⟨⟨k,n,v,tt⟩,r,rfl⟩:=h.en.cons
 have HP:=Xj h
 clear h
 go_enter Tryz.func98,Tryz.ntmps98
 go_wp2_with fail
 refine(Zv K at_ k n v tt r _ HP.o).mono ?_
 rintro e w2 ⟨rfl,hb2⟩
 have hb3:=Xk w2 (.cells #[.int .i64 k,.int .i64 n,.int .i64 v,.string (st tt)] 103)
 have hr:=heap_alloc_new w2 (.cells #[.int .i64 k,.int .i64 n,.int .i64 v,.string (st tt)] 103)
 go_upto_region 2 with fail
 obtain⟨w3,hw3⟩:∃ W,w2.alloc (.cells #[.int .i64 k,.int .i64 n,.int .i64 v,.string (st tt)] 103)=W:=⟨_,rfl⟩
 obtain⟨gr,hgr⟩:∃ x,w2.heap.size=x:=⟨_,rfl⟩
 rw[hw3] at hr hb3 ⊢
 rw[hgr] at hr
 (try rw[hgr])
 have HB:=Xj (hb2.trans (hb3.mono hb2.size))
 have c0:=cell_of_row _ _ 0 _ _ _ hr
 have c3:=cell_of_row _ _ 3 _ _ _ hr
 have hl:=Xp hr
 clear hw3 hgr hr hb3 hb2
 cases h3:(k==3)
 ·cases h4:(k==4)
  ·have HE:Xq (isT t ({ k:=k,n:=n,v:=v,t:=tt }::r)=false):=Xj (by simp[isT,h3,h4])
   go_wp2_with fail
   go_ret
   exact⟨by rw[HE.o];try rfl,HB.o⟩
  have HE:Xq (isT t ({ k:=k,n:=n,v:=v,t:=tt }::r)=(tt==t)):=Xj (by simp[isT,h3,h4])
  go_wp2_with fail
  go_ret
  exact⟨by rw[HE.o];try rfl,HB.o⟩
 have HE:Xq (isT t ({ k:=k,n:=n,v:=v,t:=tt }::r)=(tt==t)):=Xj (by simp[isT,h3])
 go_wp2_with fail
 go_ret
 exact⟨by rw[HE.o];try rfl,HB.o⟩
def Fb (K:PC) (at_:Nat) (rest:List Tk) (t:Bt) (w:World) (e:Ending) (w':World):Prop :=
 ∃ at2 rest2,e=.returned (.bool (isT t rest))/\PAt w' K at2 rest2/\w.grownBy w' (some K.g)/\((isT t rest=true/\at2=at_+1/\rest2=rest.tail)\/(isT t rest=false/\at2=at_/\rest2=rest))
theorem Yd (K:PC) (at_:Nat) (rest:List Tk) (t:Bt) (w:World) (h:PAt w K at_ rest):Calls Tryz.prog 99 #[.pointer (some ⟨K.g,0,none⟩),.string (st t)] w (Fb K at_ rest t w):=by
 have HP:=Xj h
 clear h
 go_enter Tryz.func99,Tryz.ntmps99
 go_wp2_with fail
 refine(Ez K at_ rest t _ HP.o).mono ?_
 rintro e w2 ⟨rfl,hb2⟩
 have HP2:=Xj (HP.o.below hb2)
 have HG2:=Xj (Xm hb2 (some K.g))
 clear hb2
 cases hT:isT t rest
 ·have HT:=Xj hT
  clear hT
  go_wp2_with fail
  go_ret
  exact⟨at_,rest,by rw[HT.o];rfl,HP2.o,HG2.o,.inr ⟨HT.o,rfl,rfl⟩⟩
 have HT:=Xj hT
 obtain⟨-,p1,-,f1,-,hl⟩:=HP2.o.cells
 have hn:=HP2.o.n
 have hlt:=HP2.o.lt.1
 have hw1:IntKind.i64.wrap ((at_:Int)+1)=(at_:Int)+1:=by rw[IntKind.wrap_i64];omega
 have HF:=Xj (And.intro (HP2.o.step (Ys HT.o).2.2.1) (Xg HG2.o (Xc w2 K.g 1 (.int .i64 ((at_:Int)+1)))))
 clear hn hlt hT
 go_wp2_with fail
 go_ret
 exact⟨at_+1,rest.tail,by rw[HT.o];rfl,HF.o.1,HF.o.2,.inl ⟨HT.o,rfl,rfl⟩⟩
def Fw (K:PC) (at_:Nat) (rest:List Tk) (w:World) (e:Ending) (w':World):Prop :=
 ∃ at2 rest2,PAt w' K at2 rest2/\w.grownBy w' (some K.g)/\((kOf rest=1/\e=.returned (.tuple #[.string (st (tOf rest)),.bool true])/\at2=at_+1/\rest2=rest.tail)\/(kOf rest≠1/\e=.returned (.tuple #[.string ⟨#[]⟩,.bool false])/\at2=at_/\rest2=rest))
theorem Ru (K:PC) (at_:Nat) (rest:List Tk) (w:World) (h:PAt w K at_ rest):Calls Tryz.prog 146 #[.pointer (some ⟨K.g,0,none⟩)] w (Fw K at_ rest w):=by
 obtain⟨⟨k,n,v,tt⟩,r,hxr⟩:=h.en.cons
 have HX:=Xj hxr
 have HP:=Xj h
 clear h hxr
 go_enter Tryz.func146,Tryz.ntmps146
 go_wp2_with fail
 refine(Zv K at_ k n v tt r _ (HX.o▸HP.o)).mono ?_
 rintro e w2 ⟨rfl,hb2⟩
 have hb3:=Xk w2 (.cells #[.int .i64 k,.int .i64 n,.int .i64 v,.string (st tt)] 103)
 have hr:=heap_alloc_new w2 (.cells #[.int .i64 k,.int .i64 n,.int .i64 v,.string (st tt)] 103)
 go_upto_region 2 with fail
 obtain⟨w3,hw3⟩:∃ W,w2.alloc (.cells #[.int .i64 k,.int .i64 n,.int .i64 v,.string (st tt)] 103)=W:=⟨_,rfl⟩
 obtain⟨gr,hgr⟩:∃ x,w2.heap.size=x:=⟨_,rfl⟩
 rw[hw3] at hr hb3 ⊢
 rw[hgr] at hr
 (try rw[hgr])
 have HB:=Xj (hb2.trans (hb3.mono hb2.size))
 have HR:=Xj hr
 have HP3:=Xj (HP.o.below HB.o)
 have HG3:=Xj (Xm HB.o (some K.g))
 have c0:=cell_of_row _ _ 0 _ _ _ hr
 have HGN:Xq (K.g≠gr):=Xj (by have:=HP.o.glt;have:=hb2.size;omega)
 clear hw3 hgr hr hb3 hb2
 by_cases hk:k=1
 ·subst hk
  have HK:Xq (kOf rest=1/\tOf rest=tt):=Xj ⟨by rw[HX.o];rfl,by rw[HX.o];rfl⟩
  obtain⟨-,p1,-,f1,-,hl⟩:=HP3.o.cells
  have hn:=HP3.o.n
  have hlt:=HP3.o.lt.1
  have hw1:IntKind.i64.wrap ((at_:Int)+1)=(at_:Int)+1:=by rw[IntKind.wrap_i64];omega
  have HF:=Xj (And.intro (HP3.o.step (by have:=HK.o.1;omega)) (Xg HG3.o (Xc w3 K.g 1 (.int .i64 ((at_:Int)+1)))))
  have hr2:=(heap_setCell_other w3 ⟨K.g,1,none⟩ gr (.int .i64 ((at_:Int)+1)) (by have:=HGN.o;exact λ e=>this e.symm)).trans HR.o
  have c3:=cell_of_row _ _ 3 _ _ _ hr2
  have hl2:=Xp hr2
  clear hn hlt hr2
  go_wp2_with fail
  refine bodyPost_ret (v:=.tuple #[.string (st tt),.bool true]) (by simp[results,Tryz.results146,go_sem]) rfl ?_
  exact⟨at_+1,rest.tail,HF.o.1,HF.o.2,.inl ⟨HK.o.1,by rw[HK.o.2],rfl,rfl⟩⟩
 have dk:(k==1)=false:=by rw[beq_eq_false_iff_ne];exact hk
 have dk2:(k != 1)=true:=by rw[bne_iff_ne];exact hk
 have HK:Xq (kOf rest≠1):=Xj (by rw[HX.o];exact hk)
 clear hk
 go_wp2_with fail
 refine bodyPost_ret (v:=.tuple #[.string ⟨#[]⟩,.bool false]) (by simp[results,Tryz.results146,go_sem]) rfl ?_
 exact⟨at_,rest,HP3.o,HG3.o,.inr ⟨HK.o,rfl,rfl,rfl⟩⟩
theorem Dz (t:Bt) (w:World):Calls Tryz.prog 190 #[.string (st t)] w λ e w'=>e=.returned (.int .i64 (Zy t))/\w'=w:=by
 have HE:Xq (Zy t=if t=[60] then 8 else if t=[60,61] then 9 else if t=[61,61] then 10 else if t=[33,61] then 11 else if t=[43] then 3 else if t=[45] then 4 else if t=[42] then 5 else if t=[47] then 6 else if t=[37] then 7 else 0):=Xj rfl
 by_cases h:t=[60]
 ·subst h
  go_enter Tryz.func190,Tryz.ntmps190
  go_wp2_with fail
  go_ret
  exact⟨rfl,rfl⟩
 have h0:(t==[60])=false:=by rw[beq_eq_false_iff_ne];exact h
 rw[if_neg h] at HE
 clear h
 by_cases h:t=[60,61]
 ·subst h
  go_enter Tryz.func190,Tryz.ntmps190
  go_wp2_with fail
  go_ret
  exact⟨rfl,rfl⟩
 have h1:(t==[60,61])=false:=by rw[beq_eq_false_iff_ne];exact h
 rw[if_neg h] at HE
 clear h
 by_cases h:t=[61,61]
 ·subst h
  go_enter Tryz.func190,Tryz.ntmps190
  go_wp2_with fail
  go_ret
  exact⟨rfl,rfl⟩
 have h2:(t==[61,61])=false:=by rw[beq_eq_false_iff_ne];exact h
 rw[if_neg h] at HE
 clear h
 by_cases h:t=[33,61]
 ·subst h
  go_enter Tryz.func190,Tryz.ntmps190
  go_wp2_with fail
  go_ret
  exact⟨rfl,rfl⟩
 have h3:(t==[33,61])=false:=by rw[beq_eq_false_iff_ne];exact h
 rw[if_neg h] at HE
 clear h
 by_cases h:t=[43]
 ·subst h
  go_enter Tryz.func190,Tryz.ntmps190
  go_wp2_with fail
  go_ret
  exact⟨rfl,rfl⟩
 have h4:(t==[43])=false:=by rw[beq_eq_false_iff_ne];exact h
 rw[if_neg h] at HE
 clear h
 by_cases h:t=[45]
 ·subst h
  go_enter Tryz.func190,Tryz.ntmps190
  go_wp2_with fail
  go_ret
  exact⟨rfl,rfl⟩
 have h5:(t==[45])=false:=by rw[beq_eq_false_iff_ne];exact h
 rw[if_neg h] at HE
 clear h
 by_cases h:t=[42]
 ·subst h
  go_enter Tryz.func190,Tryz.ntmps190
  go_wp2_with fail
  go_ret
  exact⟨rfl,rfl⟩
 have h6:(t==[42])=false:=by rw[beq_eq_false_iff_ne];exact h
 rw[if_neg h] at HE
 clear h
 by_cases h:t=[47]
 ·subst h
  go_enter Tryz.func190,Tryz.ntmps190
  go_wp2_with fail
  go_ret
  exact⟨rfl,rfl⟩
 have h7:(t==[47])=false:=by rw[beq_eq_false_iff_ne];exact h
 rw[if_neg h] at HE
 clear h
 by_cases h:t=[37]
 ·subst h
  go_enter Tryz.func190,Tryz.ntmps190
  go_wp2_with fail
  go_ret
  exact⟨rfl,rfl⟩
 have h8:(t==[37])=false:=by rw[beq_eq_false_iff_ne];exact h
 rw[if_neg h] at HE
 clear h
 go_enter Tryz.func190,Tryz.ntmps190
 go_wp2_with fail
 go_ret
 exact⟨by rw[HE.o];try rfl,rfl⟩
def Fv (K:PC) (lo hi:Int) (at_:Nat) (rest:List Tk) (w:World) (e:Ending) (w':World):Prop :=
 ∃ at2 rest2,PAt w' K at2 rest2/\w.grownBy w' (some K.g)/\((Yy lo hi rest≠0/\e=.returned (.tuple #[.int .i64 (Yy lo hi rest),.int .i64 (Yj rest)])/\at2=at_+1/\rest2=rest.tail)\/(Yy lo hi rest=0/\e=.returned (.tuple #[.int .i64 0,.int .i64 0])/\at2=at_/\rest2=rest))
theorem Jb (K:PC) (lo hi:Int) (hlo:0<lo) (at_:Nat) (rest:List Tk) (w:World) (h:PAt w K at_ rest):Calls Tryz.prog 170 #[.pointer (some ⟨K.g,0,none⟩),.int .i64 lo,.int .i64 hi] w (Fv K lo hi at_ rest w):=by
 obtain⟨⟨k,n,v,tt⟩,r,hxr⟩:=h.en.cons
 have HX:=Xj hxr
 have HP:=Xj h
 have HLO:=Xj hlo
 clear h hxr hlo
 go_enter Tryz.func170,Tryz.ntmps170
 go_wp2_with fail
 refine(Zv K at_ k n v tt r _ (HX.o▸HP.o)).mono ?_
 rintro e w2 ⟨rfl,hb2⟩
 have hb3:=Xk w2 (.cells #[.int .i64 k,.int .i64 n,.int .i64 v,.string (st tt)] 103)
 have hr:=heap_alloc_new w2 (.cells #[.int .i64 k,.int .i64 n,.int .i64 v,.string (st tt)] 103)
 go_upto_region 2 with fail
 obtain⟨w3,hw3⟩:∃ W,w2.alloc (.cells #[.int .i64 k,.int .i64 n,.int .i64 v,.string (st tt)] 103)=W:=⟨_,rfl⟩
 obtain⟨gr,hgr⟩:∃ x,w2.heap.size=x:=⟨_,rfl⟩
 rw[hw3] at hr hb3 ⊢
 rw[hgr] at hr
 (try rw[hgr])
 have HB:=Xj (hb2.trans (hb3.mono hb2.size))
 have HR:=Xj hr
 have HP3:=Xj (HP.o.below HB.o)
 have HG3:=Xj (Xm HB.o (some K.g))
 have c0:=cell_of_row _ _ 0 _ _ _ hr
 have c3:=cell_of_row _ _ 3 _ _ _ hr
 have hl3:=Xp hr
 have HGN:Xq (K.g≠gr):=Xj (by have:=HP.o.glt;have:=hb2.size;omega)
 have HOP:Xq (Yy lo hi rest=if k=4/\lo<=Zy tt/\Zy tt<=hi then Zy tt else 0):=Xj (by rw[HX.o];rfl)
 have HLN:Xq (Yj rest=n/\kOf rest=k):=Xj (by rw[HX.o];exact⟨rfl,rfl⟩)
 clear hw3 hgr hr hb3 hb2
 by_cases hk:k=4
 ·subst hk
  have hop:=Gv tt
  obtain⟨op,ho⟩:∃ o,Zy tt=o:=⟨_,rfl⟩
  have HBI:=Xj (Dz tt)
  rw[ho] at hop HOP HBI
  clear ho
  go_wp2_with fail
  refine(HBI.o _).mono ?_
  rintro e w4 ⟨rfl,rfl⟩
  by_cases h1:op<lo
  ·have d1:decide (op<lo)=true:=by rw[decide_eq_true_iff];exact h1
   have HZ:Xq (Yy lo hi rest=0):=Xj (by rw[HOP.o,if_neg (by omega)])
   clear h1
   go_wp2_with fail
   refine bodyPost_ret (v:=.tuple #[.int .i64 0,.int .i64 0]) (by simp[results,Tryz.results170,go_sem]) rfl ?_
   exact⟨at_,rest,HP3.o,HG3.o,.inr ⟨HZ.o,rfl,rfl,rfl⟩⟩
  have d1:decide (op<lo)=false:=by rw[decide_eq_false_iff_not];exact h1
  by_cases h2:hi<op
  ·have d2:decide (hi<op)=true:=by rw[decide_eq_true_iff];exact h2
   have HZ:Xq (Yy lo hi rest=0):=Xj (by rw[HOP.o,if_neg (by omega)])
   clear h1 h2
   go_wp2_with fail
   refine bodyPost_ret (v:=.tuple #[.int .i64 0,.int .i64 0]) (by simp[results,Tryz.results170,go_sem]) rfl ?_
   exact⟨at_,rest,HP3.o,HG3.o,.inr ⟨HZ.o,rfl,rfl,rfl⟩⟩
  have d2:decide (hi<op)=false:=by rw[decide_eq_false_iff_not];exact h2
  have HZ:Xq (Yy lo hi rest=op/\op≠0):=Xj ⟨by rw[HOP.o,if_pos ⟨by simp,by omega,by omega⟩],by have:=HLO.o;omega⟩
  obtain⟨-,p1,-,f1,-,hl⟩:=HP3.o.cells
  have hn:=HP3.o.n
  have hlt:=HP3.o.lt.1
  have hw1:IntKind.i64.wrap ((at_:Int)+1)=(at_:Int)+1:=by rw[IntKind.wrap_i64];omega
  have HF:=Xj (And.intro (HP3.o.step (by have:=HLN.o.2;omega)) (Xg HG3.o (Xc w4 K.g 1 (.int .i64 ((at_:Int)+1)))))
  have hr2:=(heap_setCell_other w4 ⟨K.g,1,none⟩ gr (.int .i64 ((at_:Int)+1)) (by have:=HGN.o;exact λ e=>this e.symm)).trans HR.o
  have e1:=cell_of_row _ _ 1 _ _ _ hr2
  have hl2:=Xp hr2
  clear hn hlt hr2 h1 h2 c0 c3 hl3
  go_upto_region 8 with fail
  obtain⟨w5,hw5⟩:∃ W,w4.setCell ⟨K.g,1,none⟩ (.int .i64 ((at_:Int)+1))=W:=⟨_,rfl⟩
  rw[hw5] at HF e1 hl2 ⊢
  clear hw5 p1 f1 hl
  refine Vd (by kernel_rfl) (by kernel_rfl) ?_
  have m1:∀ y:Ks w5,y.val.cell? ⟨gr,1,none⟩=some (.int .i64 n):=λ y=>y.cell e1
  repeat (go_big_quiet_step (fail))
  refine wpQuiet_nil ?_
  intro w6 hb6
  clear m1
  go_wp2_with fail
  refine bodyPost_ret (v:=.tuple #[.int .i64 op,.int .i64 n]) (by simp[results,Tryz.results170,go_sem]) rfl ?_
  exact⟨at_+1,rest.tail,HF.o.1.below hb6,Xg HF.o.2 (Xm hb6 _),.inl ⟨by rw[HZ.o.1];exact HZ.o.2,by rw[HZ.o.1,HLN.o.1],rfl,rfl⟩⟩
 have dk:(k==4)=false:=by rw[beq_eq_false_iff_ne];exact hk
 have dk2:(k != 4)=true:=by rw[bne_iff_ne];exact hk
 have HZ:Xq (Yy lo hi rest=0):=Xj (by rw[HOP.o,if_neg (λ h=>hk h.1)])
 clear hk
 go_wp2_with fail
 refine bodyPost_ret (v:=.tuple #[.int .i64 0,.int .i64 0]) (by simp[results,Tryz.results170,go_sem]) rfl ?_
 exact⟨at_,rest,HP3.o,HG3.o,.inr ⟨HZ.o,rfl,rfl,rfl⟩⟩
end Go.Proofs.YtldgghnjminhiaaGreatDoor
