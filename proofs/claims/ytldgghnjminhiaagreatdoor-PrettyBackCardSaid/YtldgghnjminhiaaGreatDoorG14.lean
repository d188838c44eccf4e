/-
  WORDS, PLAIN LAWS and WALKS (WtA WtB QsL QuS QuE WtC WsE WsS WsT), pressed. (Filled in from templates of this repo.)
-/
import Derived.Test.YtldgghnjminhiaaGreatDoorG4
import Derived.Test.YtldgghnjminhiaaGreatDoorG12
import Derived.Test.YtldgghnjminhiaaGreatDoorG13
import Derived.Test.YtldgghnjminhiaaGreatDoorG11
import Derived.Test.YtldgghnjminhiaaGreatDoorG8
import Derived.Laws.StructEq
import Derived.Deep.CutBlock
import Derived.Deep.CutRange
import Derived.Test.YtldgghnjminhiaaGreatDoorG3
import Derived.Test.YtldgghnjminhiaaGreatDoorG7
namespace Go.Proofs.YtldgghnjminhiaaGreatDoor
open Go Go.ChangeAt Go.ChangeShapes Go.RowKit Go.WideShapes
set_option linter.unusedVariables false
set_option linter.unusedSimpArgs false
set_option maxRecDepth 100000
set_option maxHeartbeats 16000000
theorem Fg (n:Nat):Lib.repeatL [9] n=tabs n:=by
 unfold tabs
 induction n with
 | zero=>rfl
 | succ n ih=>show [9]++Lib.repeatL [9] n=_;rw[ih,List.replicate_succ];rfl
theorem Jn (n:Nat) (hn:n<=1000) (W:World) (B b:Nat) (t:Bt) (hb:Bd B b t W) (hl:t.length<=90000000) :
  Calls Tryz.prog 79 #[.pointer (some ⟨b,0,none⟩),.int .i64 n] W (WP B b (t++tabs n) W):=by
 have HB:=Xj (hb.keep (Below.refl _ _).drew)
 have hlt:=hb.lt
 have HK0:Xq (WK B b W W.drew):=Xj (WK.of (Below.refl _ _).drew (by omega))
 clear hb
 go_enter Tryz.func79,Tryz.ntmps79
 go_upto_region 0 with fail
 refine wp_region_held_drew (S:=(λ _=>True)) (by kernel_rfl) trivial (λ hJ=>?_)
 refine tkH 0 4 ?_
 refine tkH 1 5 ?_
 refine tkH 2 6 ?_
 refine tkH 3 7 ?_
 refine rdH 4 λ K0 hK=>?_
 go_simp
 refine(Tryz.strings_Repeat (st [9]) n W.drew (by omega) (by show 1*n<=_;omega)).mono ?_
 rintro e w2 ⟨rfl,hb2⟩
 have HB2:=Xj (HB.o.keep hb2)
 have HK2:=Xj (HK0.o.trans (WK.of hb2 (by have:=HB.o.lt;omega)))
 have hrep:Lib.repeatL (st [9]).data.toList n=tabs n:=Fg n
 rw[hrep]
 refine goH hK trivial λ hJ=>?_
 clear hb2 hK K0 hrep
 refine rdH 5 λ K0 hK=>?_
 go_simp
 refine(Yp B b t (tabs n) _ HB2.o (by have:(tabs n).length=n:=List.length_replicate;omega)).mono ?_
 rintro e w3 ⟨rfl,hb3,hk3⟩
 have HB3:=Xj hb3
 have HK3:=Xj (HK2.o.trans hk3)
 refine goH hK trivial λ hJ=>?_
 clear hb3 hk3 hK K0
 refine wpAnyH_done (by kernel_rfl) ?_ _
 go_wp2_with fail
 refine bodyPost_ret (results_none rfl _ _ _) rfl ?_
 exact⟨rfl,HB3.o,HK3.o⟩
abbrev stC (x:S1) (a:Option Addr) (c:Nat) (at_:Option Addr) (ct:Nat) (ae:Option Addr) (ce:Nat):Array Value := #[.int .i64 x.k,.int .i64 x.ln,.string (st x.nm),.slice a x.xs.len c,.slice at_ x.th.len ct,.slice ae x.el.len ce]
theorem Xf.belowB {B:Nat} {w w':World} {S:Sf} {sl:Value} (h:Xf w (λ k=>k<B) S sl) (hb:Below B w w'):Xf w' (λ k=>k<B) S sl:=h.keep (λ b h1 hlt=>⟨hb.block b h1,h1⟩) hb.size
structure BS (B b:Nat) (t:Bt) (x:S1) (a:Option Addr) (c:Nat) (at_:Option Addr) (ct:Nat) (ae:Option Addr) (ce:Nat) (W w1:World) (g:Nat):Prop where
 bd:Bd B b t w1
 wk:WK B b W w1
 xa:Xk w1 (λ k=>k<B) x.xs (.slice a x.xs.len c)
 ta:Xf w1 (λ k=>k<B) x.th (.slice at_ x.th.len ct)
 ea:Xf w1 (λ k=>k<B) x.el (.slice ae x.el.len ce)
 row:w1.heap[g]?=some (.cells (stC x a c at_ ct ae ce) 110 (0,0))
 gb:b<g
 gB:B<=g
 hc:c<=9223372036854775807/\x.xs.len<=c
theorem BS.next {B b:Nat} {t t':Bt} {x:S1} {a:Option Addr} {c:Nat} {at_:Option Addr} {ct:Nat} {ae:Option Addr} {ce:Nat} {W w1 w2:World} {g:Nat} (X:BS B b t x a c at_ ct ae ce W w1 g) (hb:Bd B b t' w2) (hk:WK B b w1 w2):BS B b t' x a c at_ ct ae ce W w2 g :=
 ⟨hb,X.wk.trans hk,X.xa.belowB hk.be,X.ta.belowB hk.be,X.ea.belowB hk.be,hk.row X.row (by decide) (by have:=X.gb;omega),X.gb,X.gB,X.hc⟩
theorem BS.below {B b:Nat} {t:Bt} {x:S1} {a:Option Addr} {c:Nat} {at_:Option Addr} {ct:Nat} {ae:Option Addr} {ce:Nat} {W w1 w2:World} {g:Nat} (X:BS B b t x a c at_ ct ae ce W w1 g) (hk:Below w1.heap.size w1 w2):BS B b t x a c at_ ct ae ce W w2 g :=
 X.next (X.bd.keep hk) (WK.of hk (by have:=X.bd.lt;omega))
theorem Rd {B b:Nat} {t:Bt} {x:S1} {a:Option Addr} {c:Nat} {at_:Option Addr} {ct:Nat} {ae:Option Addr} {ce:Nat} {W:World} (ha:Xk W (λ k=>k<B) x.xs (.slice a x.xs.len c)) (ht:Xf W (λ k=>k<B) x.th (.slice at_ x.th.len ct)) (he:Xf W (λ k=>k<B) x.el (.slice ae x.el.len ce)) (hb:Bd B b t W) :
  ∃ w1 g,W.alloc (.cells (stC x a c at_ ct ae ce) 110)=w1/\W.heap.size=g/\BS B b t x a c at_ ct ae ce W w1 g:=by
 have hl:=hb.lt
 have hb0:=Xw W (.cells (stC x a c at_ ct ae ce) 110)
 have h2:=hb0.mono (show B<=W.heap.size by omega)
 refine⟨_,_,rfl,rfl,hb.keep hb0,WK.of hb0 (by omega),ha.belowB h2,ht.belowB h2,he.belowB h2,heap_alloc_new W _,hl.2,by omega,?_⟩
 obtain⟨a',c',rws,e,h1,h3,-⟩:=ha
 injection e with e1 e2 e3
 subst e3
 exact⟨by unfold maxLen at h3;omega,h1⟩
theorem Uh {xs:Fo} {i:Nat} {y:Hd×Fo} (h:xs.get i=some y):Jj xs i=Yw y.1 y.2:=by
 unfold Jj;rw[Qf xs i y h]
theorem Tc (x:S1) (hkk:x.k=1) (y:Hd×Fo) (hy:x.xs.get 0=some y) (HJ:x.xs.len=1) (hE:PE y.1 y.2) (a:Option Addr) (c:Nat) (at_:Option Addr) (ct:Nat) (ae:Option Addr) (ce:Nat) (W:World) (B b:Nat) (t:Bt) (n:Nat)
  (ha:Xk W (λ k=>k<B) x.xs (.slice a x.xs.len c)) (ht:Xf W (λ k=>k<B) x.th (.slice at_ x.th.len ct)) (he:Xf W (λ k=>k<B) x.el (.slice ae x.el.len ce)) (hb:Bd B b t W) (hl:t.length+(Ys x.k x.nm x.xs x.th x.el n).length+1<=90000000) :
  Calls Tryz.prog 80 #[.pointer (some ⟨b,0,none⟩),.agg (stC x a c at_ ct ae ce)] W (WP B b (t++(Ys x.k x.nm x.xs x.th x.el n++[10])) W):=by
 have hv:Ys x.k x.nm x.xs x.th x.el n=[118,97,114,32]++(x.nm++([32,61,32]++(Yw y.1 y.2++[59]))):=by unfold Ys;rw[hkk,Uh hy];simp
 have HV:=Xj hv
 rw[hv] at hl
 simp only[List.length_append,List.length_cons,List.length_nil] at hl
 obtain⟨w1,g,hw1,hg,hX⟩:=Rd ha ht he hb
 have HX:=Xj hX
 obtain⟨p0,p1,p2,p3,p4,p5⟩:=Xl hX.row
 have hlt:=hX.bd.lt
 have hjb:=hX.hc
 have HE:=Xj hE
 have HYY:=Xj hy
 rw[hkk] at p0
 rw[HJ] at p3 hjb
 have HLN:=Xj HJ
 clear hX ha ht he hb hkk hv hE hy HJ
 have HXd:=Xj (HX.o.below (Below.refl _ _).drew)
 go_enter Tryz.func80,Tryz.ntmps80
 go_upto_region 3 with fail
 (try rw[hw1])
 (try rw[hg])
 clear hw1 hg
 have hst:=Kj
 refine wp_region_held_drew (S:=(λ w'=>w'.cell? ⟨g,2,none⟩=some (.string (st x.nm)))) (by kernel_rfl) p2 (λ hJ=>?_)
 refine tkH 0 8 ?_
 refine tkH 1 9 ?_
 refine tkH 2 10 ?_
 refine tkH 3 11 ?_
 refine tkH 4 12 ?_
 refine tkH 5 13 (v:=.string (st (118::97::114::32::x.nm))) ?_ (hy:=by intro w hSw;go_simp;(try simp only[List.length_append,List.length_cons,List.length_nil]);omega)
 refine tkH 6 14 (v:=.string (st (118::97::114::32::(x.nm++[32,61,32])))) ?_ (hy:=by intro w hSw;go_simp;(try simp only[List.length_append,List.length_cons,List.length_nil]);omega)
 refine rdH 7 λ K0 hK=>?_
 go_simp
 refine(Yp B b t (118::97::114::32::(x.nm++[32,61,32])) _ HXd.o.bd (by simp only[List.length_append,List.length_cons,List.length_nil];omega)).mono ?_
 rintro e w2 ⟨rfl,hb2,hk2⟩
 have HX2:=Xj (HXd.o.next hb2 hk2)
 refine goH hK (cell_of_row _ _ 2 _ _ _ HX2.o.row) λ hJ=>?_
 clear hb2 hk2 p0 p1 p2 p3 p4 p5 hK K0 hst
 refine wpAnyH_done (by kernel_rfl) ?_ _
 obtain⟨b0,o0,as0,cs0,rfl,HA0,k0,k1,k2,k3,k4,k5⟩:=Vx HX2.o.xa HYY.o
 obtain⟨p0,p1,p2,p3,p4,p5⟩:=Xl HX2.o.row
 rw[HLN.o] at p3
 go_wp2_with fail
 refine(HE.o _ _ B b _ HA0.o HX2.o.bd (by simp only[List.length_append,List.length_cons,List.length_nil];omega)).mono ?_
 rintro e w3 ⟨rfl,hb3,hk3⟩
 have HX3:=Xj (HX2.o.next hb3 hk3)
 clear hb3 hk3 p0 p1 p2 p3 p4 p5 k0 k1 k2 k3 k4 k5
 go_wp2_with fail
 refine(Yp B b _ [59,10] _ HX3.o.bd (by simp only[List.length_append,List.length_cons,List.length_nil] ;omega)).mono ?_
 rintro e w4 ⟨rfl,hb4,hk4⟩
 have HX4:=Xj (HX3.o.next hb4 hk4)
 clear hb4 hk4
 go_wp2_with fail
 refine bodyPost_ret (results_none rfl _ _ _) rfl ?_
 refine⟨rfl,?_,HX4.o.wk⟩
 have:=HX4.o.bd
 rw[HV.o]
 simpa [List.append_assoc] using this
theorem Tn (x:S1) (hkk:x.k=2) (y:Hd×Fo) (hy:x.xs.get 0=some y) (HJ:x.xs.len=1) (hE:PE y.1 y.2) (a:Option Addr) (c:Nat) (at_:Option Addr) (ct:Nat) (ae:Option Addr) (ce:Nat) (W:World) (B b:Nat) (t:Bt) (n:Nat)
  (ha:Xk W (λ k=>k<B) x.xs (.slice a x.xs.len c)) (ht:Xf W (λ k=>k<B) x.th (.slice at_ x.th.len ct)) (he:Xf W (λ k=>k<B) x.el (.slice ae x.el.len ce)) (hb:Bd B b t W) (hl:t.length+(Ys x.k x.nm x.xs x.th x.el n).length+1<=90000000) :
  Calls Tryz.prog 80 #[.pointer (some ⟨b,0,none⟩),.agg (stC x a c at_ ct ae ce)] W (WP B b (t++(Ys x.k x.nm x.xs x.th x.el n++[10])) W):=by
 have hv:Ys x.k x.nm x.xs x.th x.el n=x.nm++([32,61,32]++(Yw y.1 y.2++[59])):=by unfold Ys;rw[hkk,Uh hy];simp
 have HV:=Xj hv
 rw[hv] at hl
 simp only[List.length_append,List.length_cons,List.length_nil] at hl
 obtain⟨w1,g,hw1,hg,hX⟩:=Rd ha ht he hb
 have HX:=Xj hX
 obtain⟨p0,p1,p2,p3,p4,p5⟩:=Xl hX.row
 have hlt:=hX.bd.lt
 have hjb:=hX.hc
 have HE:=Xj hE
 have HYY:=Xj hy
 rw[hkk] at p0
 rw[HJ] at p3 hjb
 have HLN:=Xj HJ
 clear hX ha ht he hb hkk hv hE hy HJ
 have HXd:=Xj (HX.o.below (Below.refl _ _).drew)
 go_enter Tryz.func80,Tryz.ntmps80
 go_upto_region 5 with fail
 (try rw[hw1])
 (try rw[hg])
 clear hw1 hg
 have hst:=Kj
 refine wp_region_held_drew (S:=(λ w'=>w'.cell? ⟨g,2,none⟩=some (.string (st x.nm)))) (by kernel_rfl) p2 (λ hJ=>?_)
 refine tkH 0 18 ?_
 refine tkH 1 19 ?_
 refine tkH 2 20 ?_
 refine tkH 3 21 ?_
 refine tkH 4 22 ?_
 refine tkH 5 23 (v:=.string (st (x.nm++[32,61,32]))) ?_ (hy:=by intro w hSw;go_simp;(try simp only[List.length_append,List.length_cons,List.length_nil]);omega)
 refine rdH 6 λ K0 hK=>?_
 go_simp
 refine(Yp B b t (x.nm++[32,61,32]) _ HXd.o.bd (by simp only[List.length_append,List.length_cons,List.length_nil];omega)).mono ?_
 rintro e w2 ⟨rfl,hb2,hk2⟩
 have HX2:=Xj (HXd.o.next hb2 hk2)
 refine goH hK (cell_of_row _ _ 2 _ _ _ HX2.o.row) λ hJ=>?_
 clear hb2 hk2 p0 p1 p2 p3 p4 p5 hK K0 hst
 refine wpAnyH_done (by kernel_rfl) ?_ _
 obtain⟨b0,o0,as0,cs0,rfl,HA0,k0,k1,k2,k3,k4,k5⟩:=Vx HX2.o.xa HYY.o
 obtain⟨p0,p1,p2,p3,p4,p5⟩:=Xl HX2.o.row
 rw[HLN.o] at p3
 go_wp2_with fail
 refine(HE.o _ _ B b _ HA0.o HX2.o.bd (by simp only[List.length_append,List.length_cons,List.length_nil];omega)).mono ?_
 rintro e w3 ⟨rfl,hb3,hk3⟩
 have HX3:=Xj (HX2.o.next hb3 hk3)
 clear hb3 hk3 p0 p1 p2 p3 p4 p5 k0 k1 k2 k3 k4 k5
 go_wp2_with fail
 refine(Yp B b _ [59,10] _ HX3.o.bd (by simp only[List.length_append,List.length_cons,List.length_nil] ;omega)).mono ?_
 rintro e w4 ⟨rfl,hb4,hk4⟩
 have HX4:=Xj (HX3.o.next hb4 hk4)
 clear hb4 hk4
 go_wp2_with fail
 refine bodyPost_ret (results_none rfl _ _ _) rfl ?_
 refine⟨rfl,?_,HX4.o.wk⟩
 have:=HX4.o.bd
 rw[HV.o]
 simpa [List.append_assoc] using this
theorem Td (x:S1) (hkk:x.k=6) (y:Hd×Fo) (hy:x.xs.get 0=some y) (HJ:x.xs.len=1) (hE:PE y.1 y.2) (a:Option Addr) (c:Nat) (at_:Option Addr) (ct:Nat) (ae:Option Addr) (ce:Nat) (W:World) (B b:Nat) (t:Bt) (n:Nat)
  (ha:Xk W (λ k=>k<B) x.xs (.slice a x.xs.len c)) (ht:Xf W (λ k=>k<B) x.th (.slice at_ x.th.len ct)) (he:Xf W (λ k=>k<B) x.el (.slice ae x.el.len ce)) (hb:Bd B b t W) (hl:t.length+(Ys x.k x.nm x.xs x.th x.el n).length+1<=90000000) :
  Calls Tryz.prog 80 #[.pointer (some ⟨b,0,none⟩),.agg (stC x a c at_ ct ae ce)] W (WP B b (t++(Ys x.k x.nm x.xs x.th x.el n++[10])) W):=by
 have hv:Ys x.k x.nm x.xs x.th x.el n=[114,101,116,117,114,110,32]++(Yw y.1 y.2++[59]):=by unfold Ys;rw[hkk,Uh hy];simp
 have HV:=Xj hv
 rw[hv] at hl
 simp only[List.length_append,List.length_cons,List.length_nil] at hl
 obtain⟨w1,g,hw1,hg,hX⟩:=Rd ha ht he hb
 have HX:=Xj hX
 obtain⟨p0,p1,p2,p3,p4,p5⟩:=Xl hX.row
 have hlt:=hX.bd.lt
 have hjb:=hX.hc
 have HE:=Xj hE
 have HYY:=Xj hy
 rw[hkk] at p0
 rw[HJ] at p3 hjb
 have HLN:=Xj HJ
 clear hX ha ht he hb hkk hv hE hy HJ
 have HXd:=Xj (HX.o.below (Below.refl _ _).drew)
 go_enter Tryz.func80,Tryz.ntmps80
 go_upto_region 11 with fail
 (try rw[hw1])
 (try rw[hg])
 clear hw1 hg
 go_wp2_with fail
 refine(Yp B b t [114,101,116,117,114,110,32] _ HX.o.bd (by simp only[List.length_append,List.length_cons,List.length_nil];omega)).mono ?_
 rintro e w2 ⟨rfl,hb2,hk2⟩
 have HX2:=Xj (HX.o.next hb2 hk2)
 clear hb2 hk2 p0 p1 p2 p3 p4 p5
 obtain⟨b0,o0,as0,cs0,rfl,HA0,k0,k1,k2,k3,k4,k5⟩:=Vx HX2.o.xa HYY.o
 obtain⟨p0,p1,p2,p3,p4,p5⟩:=Xl HX2.o.row
 rw[HLN.o] at p3
 go_wp2_with fail
 refine(HE.o _ _ B b _ HA0.o HX2.o.bd (by simp only[List.length_append,List.length_cons,List.length_nil];omega)).mono ?_
 rintro e w3 ⟨rfl,hb3,hk3⟩
 have HX3:=Xj (HX2.o.next hb3 hk3)
 clear hb3 hk3 p0 p1 p2 p3 p4 p5 k0 k1 k2 k3 k4 k5
 go_wp2_with fail
 refine(Yp B b _ [59,10] _ HX3.o.bd (by simp only[List.length_append,List.length_cons,List.length_nil] ;omega)).mono ?_
 rintro e w4 ⟨rfl,hb4,hk4⟩
 have HX4:=Xj (HX3.o.next hb4 hk4)
 clear hb4 hk4
 go_wp2_with fail
 refine bodyPost_ret (results_none rfl _ _ _) rfl ?_
 refine⟨rfl,?_,HX4.o.wk⟩
 have:=HX4.o.bd
 rw[HV.o]
 simpa [List.append_assoc] using this
theorem Th (x:S1) (hkk:x.k=7) (y:Hd×Fo) (hy:x.xs.get 0=some y) (HJ:x.xs.len=1) (hE:PE y.1 y.2) (a:Option Addr) (c:Nat) (at_:Option Addr) (ct:Nat) (ae:Option Addr) (ce:Nat) (W:World) (B b:Nat) (t:Bt) (n:Nat)
  (ha:Xk W (λ k=>k<B) x.xs (.slice a x.xs.len c)) (ht:Xf W (λ k=>k<B) x.th (.slice at_ x.th.len ct)) (he:Xf W (λ k=>k<B) x.el (.slice ae x.el.len ce)) (hb:Bd B b t W) (hl:t.length+(Ys x.k x.nm x.xs x.th x.el n).length+1<=90000000) :
  Calls Tryz.prog 80 #[.pointer (some ⟨b,0,none⟩),.agg (stC x a c at_ ct ae ce)] W (WP B b (t++(Ys x.k x.nm x.xs x.th x.el n++[10])) W):=by
 have hv:Ys x.k x.nm x.xs x.th x.el n=[112,114,105,110,116,32]++(Yw y.1 y.2++[59]):=by unfold Ys;rw[hkk,Uh hy];simp
 have HV:=Xj hv
 rw[hv] at hl
 simp only[List.length_append,List.length_cons,List.length_nil] at hl
 obtain⟨w1,g,hw1,hg,hX⟩:=Rd ha ht he hb
 have HX:=Xj hX
 obtain⟨p0,p1,p2,p3,p4,p5⟩:=Xl hX.row
 have hlt:=hX.bd.lt
 have hjb:=hX.hc
 have HE:=Xj hE
 have HYY:=Xj hy
 rw[hkk] at p0
 rw[HJ] at p3 hjb
 have HLN:=Xj HJ
 clear hX ha ht he hb hkk hv hE hy HJ
 have HXd:=Xj (HX.o.below (Below.refl _ _).drew)
 go_enter Tryz.func80,Tryz.ntmps80
 go_upto_region 13 with fail
 (try rw[hw1])
 (try rw[hg])
 clear hw1 hg
 go_wp2_with fail
 refine(Yp B b t [112,114,105,110,116,32] _ HX.o.bd (by simp only[List.length_append,List.length_cons,List.length_nil];omega)).mono ?_
 rintro e w2 ⟨rfl,hb2,hk2⟩
 have HX2:=Xj (HX.o.next hb2 hk2)
 clear hb2 hk2 p0 p1 p2 p3 p4 p5
 obtain⟨b0,o0,as0,cs0,rfl,HA0,k0,k1,k2,k3,k4,k5⟩:=Vx HX2.o.xa HYY.o
 obtain⟨p0,p1,p2,p3,p4,p5⟩:=Xl HX2.o.row
 rw[HLN.o] at p3
 go_wp2_with fail
 refine(HE.o _ _ B b _ HA0.o HX2.o.bd (by simp only[List.length_append,List.length_cons,List.length_nil];omega)).mono ?_
 rintro e w3 ⟨rfl,hb3,hk3⟩
 have HX3:=Xj (HX2.o.next hb3 hk3)
 clear hb3 hk3 p0 p1 p2 p3 p4 p5 k0 k1 k2 k3 k4 k5
 go_wp2_with fail
 refine(Yp B b _ [59,10] _ HX3.o.bd (by simp only[List.length_append,List.length_cons,List.length_nil] ;omega)).mono ?_
 rintro e w4 ⟨rfl,hb4,hk4⟩
 have HX4:=Xj (HX3.o.next hb4 hk4)
 clear hb4 hk4
 go_wp2_with fail
 refine bodyPost_ret (results_none rfl _ _ _) rfl ?_
 refine⟨rfl,?_,HX4.o.wk⟩
 have:=HX4.o.bd
 rw[HV.o]
 simpa [List.append_assoc] using this
theorem Tl (x:S1) (hkk:x.k=8) (y:Hd×Fo) (hy:x.xs.get 0=some y) (HJ:x.xs.len=1) (hE:PE y.1 y.2) (a:Option Addr) (c:Nat) (at_:Option Addr) (ct:Nat) (ae:Option Addr) (ce:Nat) (W:World) (B b:Nat) (t:Bt) (n:Nat)
  (ha:Xk W (λ k=>k<B) x.xs (.slice a x.xs.len c)) (ht:Xf W (λ k=>k<B) x.th (.slice at_ x.th.len ct)) (he:Xf W (λ k=>k<B) x.el (.slice ae x.el.len ce)) (hb:Bd B b t W) (hl:t.length+(Ys x.k x.nm x.xs x.th x.el n).length+1<=90000000) :
  Calls Tryz.prog 80 #[.pointer (some ⟨b,0,none⟩),.agg (stC x a c at_ ct ae ce)] W (WP B b (t++(Ys x.k x.nm x.xs x.th x.el n++[10])) W):=by
 have hv:Ys x.k x.nm x.xs x.th x.el n=[99,97,108,108,32]++(Yw y.1 y.2++[59]):=by unfold Ys;rw[hkk,Uh hy];simp
 have HV:=Xj hv
 rw[hv] at hl
 simp only[List.length_append,List.length_cons,List.length_nil] at hl
 obtain⟨w1,g,hw1,hg,hX⟩:=Rd ha ht he hb
 have HX:=Xj hX
 obtain⟨p0,p1,p2,p3,p4,p5⟩:=Xl hX.row
 have hlt:=hX.bd.lt
 have hjb:=hX.hc
 have HE:=Xj hE
 have HYY:=Xj hy
 rw[hkk] at p0
 rw[HJ] at p3 hjb
 have HLN:=Xj HJ
 clear hX ha ht he hb hkk hv hE hy HJ
 have HXd:=Xj (HX.o.below (Below.refl _ _).drew)
 go_enter Tryz.func80,Tryz.ntmps80
 go_upto_region 15 with fail
 (try rw[hw1])
 (try rw[hg])
 clear hw1 hg
 go_wp2_with fail
 refine(Yp B b t [99,97,108,108,32] _ HX.o.bd (by simp only[List.length_append,List.length_cons,List.length_nil];omega)).mono ?_
 rintro e w2 ⟨rfl,hb2,hk2⟩
 have HX2:=Xj (HX.o.next hb2 hk2)
 clear hb2 hk2 p0 p1 p2 p3 p4 p5
 obtain⟨b0,o0,as0,cs0,rfl,HA0,k0,k1,k2,k3,k4,k5⟩:=Vx HX2.o.xa HYY.o
 obtain⟨p0,p1,p2,p3,p4,p5⟩:=Xl HX2.o.row
 rw[HLN.o] at p3
 go_wp2_with fail
 refine(HE.o _ _ B b _ HA0.o HX2.o.bd (by simp only[List.length_append,List.length_cons,List.length_nil];omega)).mono ?_
 rintro e w3 ⟨rfl,hb3,hk3⟩
 have HX3:=Xj (HX2.o.next hb3 hk3)
 clear hb3 hk3 p0 p1 p2 p3 p4 p5 k0 k1 k2 k3 k4 k5
 go_wp2_with fail
 refine(Yp B b _ [59,10] _ HX3.o.bd (by simp only[List.length_append,List.length_cons,List.length_nil] ;omega)).mono ?_
 rintro e w4 ⟨rfl,hb4,hk4⟩
 have HX4:=Xj (HX3.o.next hb4 hk4)
 clear hb4 hk4
 go_wp2_with fail
 refine bodyPost_ret (results_none rfl _ _ _) rfl ?_
 refine⟨rfl,?_,HX4.o.wk⟩
 have:=HX4.o.bd
 rw[HV.o]
 simpa [List.append_assoc] using this
theorem Tf (x:S1) (hkk:x.k=3) (y:Hd×Fo) (hy:x.xs.get 0=some y) (HJ:x.xs.len=2) (y2:Hd×Fo) (hy2:x.xs.get 1=some y2) (hE2:PE y2.1 y2.2) (hE:PE y.1 y.2) (a:Option Addr) (c:Nat) (at_:Option Addr) (ct:Nat) (ae:Option Addr) (ce:Nat) (W:World) (B b:Nat) (t:Bt) (n:Nat)
  (ha:Xk W (λ k=>k<B) x.xs (.slice a x.xs.len c)) (ht:Xf W (λ k=>k<B) x.th (.slice at_ x.th.len ct)) (he:Xf W (λ k=>k<B) x.el (.slice ae x.el.len ce)) (hb:Bd B b t W) (hl:t.length+(Ys x.k x.nm x.xs x.th x.el n).length+1<=90000000) :
  Calls Tryz.prog 80 #[.pointer (some ⟨b,0,none⟩),.agg (stC x a c at_ ct ae ce)] W (WP B b (t++(Ys x.k x.nm x.xs x.th x.el n++[10])) W):=by
 have hv:Ys x.k x.nm x.xs x.th x.el n=x.nm++([91]++(Yw y.1 y.2++([93,32,61,32]++(Yw y2.1 y2.2++[59])))):=by unfold Ys;rw[hkk,Uh hy,Uh hy2];simp
 have HV:=Xj hv
 rw[hv] at hl
 simp only[List.length_append,List.length_cons,List.length_nil] at hl
 obtain⟨w1,g,hw1,hg,hX⟩:=Rd ha ht he hb
 have HX:=Xj hX
 obtain⟨p0,p1,p2,p3,p4,p5⟩:=Xl hX.row
 have hlt:=hX.bd.lt
 have hjb:=hX.hc
 have HE:=Xj hE
 have HYY:=Xj hy
 have HE2:=Xj hE2
 have HYZ:=Xj hy2
 clear hE2 hy2
 rw[hkk] at p0
 rw[HJ] at p3 hjb
 have HLN:=Xj HJ
 clear hX ha ht he hb hkk hv hE hy HJ
 have HXd:=Xj (HX.o.below (Below.refl _ _).drew)
 go_enter Tryz.func80,Tryz.ntmps80
 go_upto_region 7 with fail
 (try rw[hw1])
 (try rw[hg])
 clear hw1 hg
 have hst:=Kj
 refine wp_region_held_drew (S:=(λ w'=>w'.cell? ⟨g,2,none⟩=some (.string (st x.nm)))) (by kernel_rfl) p2 (λ hJ=>?_)
 refine tkH 0 27 ?_
 refine tkH 1 28 ?_
 refine tkH 2 29 ?_
 refine tkH 3 30 ?_
 refine tkH 4 31 ?_
 refine tkH 5 32 (v:=.string (st (x.nm++[91]))) ?_ (hy:=by intro w hSw;go_simp;(try simp only[List.length_append,List.length_cons,List.length_nil]);omega)
 refine rdH 6 λ K0 hK=>?_
 go_simp
 refine(Yp B b t (x.nm++[91]) _ HXd.o.bd (by simp only[List.length_append,List.length_cons,List.length_nil];omega)).mono ?_
 rintro e w2 ⟨rfl,hb2,hk2⟩
 have HX2:=Xj (HXd.o.next hb2 hk2)
 refine goH hK (cell_of_row _ _ 2 _ _ _ HX2.o.row) λ hJ=>?_
 clear hb2 hk2 p0 p1 p2 p3 p4 p5 hK K0 hst
 refine wpAnyH_done (by kernel_rfl) ?_ _
 obtain⟨b0,o0,as0,cs0,rfl,HA0,k0,k1,k2,k3,k4,k5⟩:=Vx HX2.o.xa HYY.o
 obtain⟨p0,p1,p2,p3,p4,p5⟩:=Xl HX2.o.row
 rw[HLN.o] at p3
 go_wp2_with fail
 refine(HE.o _ _ B b _ HA0.o HX2.o.bd (by simp only[List.length_append,List.length_cons,List.length_nil];omega)).mono ?_
 rintro e w3 ⟨rfl,hb3,hk3⟩
 have HX3:=Xj (HX2.o.next hb3 hk3)
 clear hb3 hk3 p0 p1 p2 p3 p4 p5 k0 k1 k2 k3 k4 k5
 go_wp2_with fail
 refine(Yp B b _ [93,32,61,32] _ HX3.o.bd (by simp only[List.length_append,List.length_cons,List.length_nil];omega)).mono ?_
 rintro e w4 ⟨rfl,hb4,hk4⟩
 have HX4:=Xj (HX3.o.next hb4 hk4)
 clear hb4 hk4
 obtain⟨as1,cs1,HA1,j0,j1,j2,j3,j4,j5⟩:=xzc HX4.o.xa HYZ.o
 rw[Nat.one_mul] at j0 j1 j2 j3 j4 j5
 obtain⟨p0,p1,p2,p3,p4,p5⟩:=Xl HX4.o.row
 rw[HLN.o] at p3
 go_wp2_with fail
 refine(HE2.o _ _ B b _ HA1.o HX4.o.bd (by simp only[List.length_append,List.length_cons,List.length_nil];omega)).mono ?_
 rintro e w5 ⟨rfl,hb5,hk5⟩
 have HX5:=Xj (HX4.o.next hb5 hk5)
 clear hb5 hk5 p0 p1 p2 p3 p4 p5 j0 j1 j2 j3 j4 j5
 go_wp2_with fail
 refine(Yp B b _ [59,10] _ HX5.o.bd (by simp only[List.length_append,List.length_cons,List.length_nil] ;omega)).mono ?_
 rintro e w6 ⟨rfl,hb4,hk4⟩
 have HX6:=Xj (HX5.o.next hb4 hk4)
 clear hb4 hk4
 go_wp2_with fail
 refine bodyPost_ret (results_none rfl _ _ _) rfl ?_
 refine⟨rfl,?_,HX6.o.wk⟩
 have:=HX6.o.bd
 rw[HV.o]
 simpa [List.append_assoc] using this
def prS (k:Int) (xs:Fo) (el:Sf):Prop:=((k=1\/k=2\/k=6\/k=7\/k=8)/\xs.len=1)\/(k=3/\xs.len=2)\/(k=4/\xs.len=1)\/(k=5/\xs.len=1/\el=.nil)
def Sf.pr:Sf->Prop
 | .nil=>True
 | .cons k _ _ xs th el r=>prS k xs el/\xs.pr/\th.pr/\el.pr/\r.pr
theorem Sf.get_pr {S:Sf} (hw:S.pr) {i:Nat} {x:S1} (h:S.get i=some x):prS x.k x.xs x.el/\x.xs.pr/\x.th.pr/\x.el.pr:=by
 induction S generalizing i with
 | nil=>cases h
 | cons k ln nm xs th el r _ _ ih =>
  cases i with
  | zero =>
   injection h with h
   subst h
   exact⟨hw.1,hw.2.1,hw.2.2.1,hw.2.2.2.1⟩
  | succ i=>exact ih hw.2.2.2.2 h
theorem Pv (x:S1) (hk:((x.k=1\/x.k=2\/x.k=6\/x.k=7\/x.k=8)/\x.xs.len=1)\/(x.k=3/\x.xs.len=2)) (hx:x.xs.pr) (a:Option Addr) (c:Nat) (at_:Option Addr) (ct:Nat) (ae:Option Addr) (ce:Nat) (W:World) (B b:Nat) (t:Bt) (n:Nat)
  (ha:Xk W (λ k=>k<B) x.xs (.slice a x.xs.len c)) (ht:Xf W (λ k=>k<B) x.th (.slice at_ x.th.len ct)) (he:Xf W (λ k=>k<B) x.el (.slice ae x.el.len ce)) (hb:Bd B b t W) (hl:t.length+(Ys x.k x.nm x.xs x.th x.el n).length+1<=90000000) :
  Calls Tryz.prog 80 #[.pointer (some ⟨b,0,none⟩),.agg (stC x a c at_ ct ae ce)] W (WP B b (t++(Ys x.k x.nm x.xs x.th x.el n++[10])) W):=by
 have hE:=Rt x.xs hx
 rcases hk with⟨hk,HJ⟩|⟨hk,HJ⟩
 ·obtain⟨y,hy⟩:=Fo.get_lt (F:=x.xs) (i:=0) (by omega)
  rcases hk with hk|hk|hk|hk|hk
  ·exact Tc x hk y hy HJ (hE _ _ hy) a c at_ ct ae ce W B b t n ha ht he hb hl
  ·exact Tn x hk y hy HJ (hE _ _ hy) a c at_ ct ae ce W B b t n ha ht he hb hl
  ·exact Td x hk y hy HJ (hE _ _ hy) a c at_ ct ae ce W B b t n ha ht he hb hl
  ·exact Th x hk y hy HJ (hE _ _ hy) a c at_ ct ae ce W B b t n ha ht he hb hl
  exact Tl x hk y hy HJ (hE _ _ hy) a c at_ ct ae ce W B b t n ha ht he hb hl
 obtain⟨y,hy⟩:=Fo.get_lt (F:=x.xs) (i:=0) (by omega)
 obtain⟨y2,hy2⟩:=Fo.get_lt (F:=x.xs) (i:=1) (by omega)
 exact Tf x hk y hy HJ y2 hy2 (hE _ _ hy2) (hE _ _ hy) a c at_ ct ae ce W B b t n ha ht he hb hl
def PS (S:Sf):Prop:=∀ (W:World) (a:Option Addr) (c:Nat) (B b:Nat) (t:Bt) (n:Nat) (m:Int),m=n->n+S.nst<=100->Xf W (λ k=>k<B) S (.slice a S.len c)->Bd B b t W->t.length+(Qz S n).length<=90000000 ->
 Calls Tryz.prog 45 #[.pointer (some ⟨b,0,none⟩),.slice a S.len c,.int .i64 m] W (WP B b (t++Qz S n) W)
theorem Sf.get_nst {S:Sf} {i:Nat} {x:S1} (h:S.get i=some x):x.th.nst+1<=S.nst/\x.el.nst+1<=S.nst:=by
 induction S generalizing i with
 | nil=>cases h
 | cons k ln nm xs th el r _ _ ih =>
  cases i with
  | zero =>
   injection h with h
   subst h
   simp only[Sf.nst]
   omega
  | succ i =>
   have:=ih h
   simp only[Sf.nst]
   omega
theorem Es (S:Sf) (hw:S.pr) (hS:∀ i x,S.get i=some x->PS x.th/\PS x.el):PS S:=by
 intro W a c B b t n m hm hjc ha hb hl
 subst hm
 have HS:=Xj hS
 have HWR:=Xj hw
 have hlt:=hb.lt
 have HA:=Xj ha
 have HB:=Xj hb
 have hcc:c<=9223372036854775807/\S.len<=c:=by obtain⟨_,_,_,e,h1,h2,_⟩:=ha;injection e with _ _ e3;subst e3;unfold maxLen at h2;exact⟨by omega,h1⟩
 have hn:n<=100:=by omega
 obtain⟨N,hN⟩:∃ N,S.len=N:=⟨_,rfl⟩
 rw[hN] at HA hcc ⊢
 have HN:=Xj hN
 have HNS:=Xj hjc
 clear hS ha hb hw hN hjc
 go_enter Tryz.func45,Tryz.ntmps45
 go_upto_block 0 with fail
 go_wp2_with fail
 go_loopw [11] (λ v11 wr=>∃ i:Nat,i<=N/\v11=.int .i64 i/\Xq (Bd B b (t++Qz (S.pre i) n) wr)/\Xq (WK B b W wr)) (λ v11 _=>N-(intOf v11).toNat)
 case atStart=>exact⟨0,by omega,rfl,Xj (by rw[Sf.pre_zero];simpa [Qz] using HB.o),Xj (WK.refl _ _ _)⟩
 obtain⟨i,hi,rfl,HR,HK⟩:=hrel
 have hdj:=HR.o.lt
 by_cases hqm:i<N
 ·obtain⟨x,hx⟩:=Sf.get_lt (S:=S) (i:=i) (by rw[HN.o];exact hqm)
  have hAr:=HA.o.belowB HK.o.be
  rw[<- HN.o] at hAr
  obtain⟨b0,o0,ax,cx,at_,ct,ae,ce,rfl,-,HXA,HTA,HEA,k0,k1,k2,k3,k4,k5⟩:=hAr.elemP hx
  have hfp:=Ih S i x hx n
  have hfl:=Dn S (i+1) n
  rw[hfp] at hfl
  have HFP:=Xj hfp
  obtain⟨hps,hpx,hpt,hpe⟩:=Sf.get_pr HWR.o hx
  have HSS:=Xj (HS.o i x hx)
  have hns:=Sf.get_nst hx
  obtain⟨wx,gx,hwx,hgx,hX⟩:=Rd (x:=x) HXA.o HTA.o HEA.o HR.o
  have HX:=Xj hX
  obtain⟨p0,p1,p2,p3,p4,p5⟩:=Xl hX.row
  have hcx:=hX.hc
  obtain⟨tp,htp⟩:∃ z,t++Qz (S.pre i) n=z:=⟨_,rfl⟩
  have htl:tp.length=t.length+(Qz (S.pre i) n).length:=by rw[<- htp,List.length_append]
  rw[htp] at HX
  have HTP:=Xj htp
  have hpxs:=Rt x.xs hpx
  have HPX:=Xj hpx
  simp only[List.length_append,List.length_cons,List.length_nil] at hfl
  have hns2:=HNS.o
  have htn:(tabs n).length=n:=List.length_replicate
  clear hAr hX hfp hx htp hpx hpt hpe
  go_upto_region 3 with fail
  clear hwx hgx k0 k1 k2 k3 k4 k5 hdj
  have hlx:=HX.o.bd.lt
  go_wp2_with fail
  refine(Jn n (by omega) _ B b tp HX.o.bd (by omega)).mono ?_
  rintro e w2 ⟨rfl,hb2,hk2⟩
  have HY:=Xj (HX.o.next hb2 hk2)
  have HKY:=Xj (HK.o.trans HY.o.wk)
  have hjt:Xq (∀ (t2:Bt) (wz:World),t2=tp++(tabs n++(Ys x.k x.nm x.xs x.th x.el n++[10]))->Bd B b t2 wz->Bd B b (t++Qz (S.pre (i+1)) n) wz):=Xj (λ t2 wz h1 h2=>by rw[HFP.o,<- List.append_assoc,HTP.o,<- h1];exact h2)
  clear hb2 hk2 p0 p1 p2 p3 p4 p5
  obtain⟨p0,p1,p2,p3,p4,p5⟩:=Xl HY.o.row
  have hly:=HY.o.bd.lt
  by_cases hsk:((x.k=1\/x.k=2\/x.k=6\/x.k=7\/x.k=8)/\x.xs.len=1)\/(x.k=3/\x.xs.len=2)
  ·have d4:(x.k != 4)=true:=by rw[bne_iff_ne];omega
   have d5:(x.k != 5)=true:=by rw[bne_iff_ne];omega
   have HSI:=Xj (Pv x hsk HPX.o ax cx at_ ct ae ce _ B b _ n HY.o.xa HY.o.ta HY.o.ea HY.o.bd (by simp only[List.length_append];omega))
   clear hsk hps
   go_wp2_with fail
   refine HSI.o.mono ?_
   rintro e w3 ⟨rfl,hb3,hk3⟩
   have HZ:=Xj (hjt.o _ _ (by simp only[List.append_assoc]) hb3)
   have HKZ:=Xj (HKY.o.trans hk3)
   clear hb3 hk3 p0 p1 p2 p3 p4 p5
   go_wp2_with fail
   go_roundw
   case rel=>exact⟨i+1,by omega,by go_num,HZ,HKZ⟩
   simp[intOf];omega
  have hvk:x.xs.len=1:=by
   rcases hps with h|h|h|h
   ·exact absurd (.inl h) hsk
   ·exact absurd (.inr h) hsk
   ·exact h.2
   exact h.2.1
  have hk45:x.k=4\/(x.k=5/\x.el=.nil):=by
   rcases hps with h|h|h|h
   ·exact absurd (.inl h) hsk
   ·exact absurd (.inr h) hsk
   ·exact .inl h.1
   exact .inr ⟨h.1,h.2.2⟩
  obtain⟨y,hy⟩:=Fo.get_lt (F:=x.xs) (i:=0) (by omega)
  have HE:=Xj (hpxs 0 y hy)
  have HYY:=Xj hy
  have hvg:=Uh hy
  have HLN:=Xj hvk
  rw[hvk] at p3 hcx
  clear hsk hps hpxs hy hvk
  rcases hk45 with hk|⟨hk,hel⟩
  ·by_cases he0:x.el.len=0
   ·have hbd:Ys x.k x.nm x.xs x.th x.el n=[105,102,32]++(Yw y.1 y.2++([32,123,10]++(Qz x.th (n+1)++(tabs n++[125])))):=by unfold Ys;rw[hk,hvg];simp[he0]
    have HBD:=Xj hbd
    rw[hbd] at hfl
    simp only[List.length_append,List.length_cons,List.length_nil] at hfl
    have d4:(x.k != 4)=false:=by rw[hk];rfl
    have d5:(x.k != 5)=true:=by rw[hk];rfl
    have d6:(x.k==4)=true:=by rw[hk];rfl
    clear hbd hvg hk
    rw[he0] at p5
    have HE0:=Xj he0
    (try rw[he0])
    clear he0
    go_wp2_with fail
    refine(Yp B b _ [105,102,32] _ HY.o.bd (by simp only[List.length_append,List.length_cons,List.length_nil];omega)).mono ?_
    rintro e w3 ⟨rfl,hb3,hk3⟩
    have H3:=Xj (HY.o.next hb3 hk3)
    clear hb3 hk3 p0 p1 p2 p3 p4 p5
    obtain⟨b1,o1,as0,cs0,rfl,HA0,k0,k1,k2,k3,k4,k5⟩:=Vx H3.o.xa HYY.o
    obtain⟨p0,p1,p2,p3,p4,p5⟩:=Xl H3.o.row
    rw[HLN.o] at p3
    go_wp2_with fail
    refine(HE.o _ _ B b _ HA0.o H3.o.bd (by simp only[List.length_append,List.length_cons,List.length_nil];omega)).mono ?_
    rintro e w4 ⟨rfl,hb4,hk4⟩
    have H4:=Xj (H3.o.next hb4 hk4)
    clear hb4 hk4 p0 p1 p2 p3 p4 p5 k0 k1 k2 k3 k4 k5
    go_wp2_with fail
    refine(Yp B b _ [32,123,10] _ H4.o.bd (by simp only[List.length_append,List.length_cons,List.length_nil];omega)).mono ?_
    rintro e w5 ⟨rfl,hb5,hk5⟩
    have H5:=Xj (H4.o.next hb5 hk5)
    obtain⟨p0,p1,p2,p3,p4,p5⟩:=Xl H5.o.row
    clear hb5 hk5
    go_wp2_with fail
    refine(HSS.o.1 _ _ _ B b _ (n+1) _ (by push_cast;rfl) (by omega) H5.o.ta H5.o.bd (by simp only[List.length_append,List.length_cons,List.length_nil];omega)).mono ?_
    rintro e w6 ⟨rfl,hb6,hk6⟩
    have H6:=Xj (H5.o.next hb6 hk6)
    clear hb6 hk6 p0 p1 p2 p3 p4 p5
    obtain⟨p0,p1,p2,p3,p4,p5⟩:=Xl H6.o.row
    rw[HE0.o] at p5
    go_wp2_with fail
    refine(Jn n (by omega) _ B b _ H6.o.bd (by simp only[List.length_append,List.length_cons,List.length_nil];omega)).mono ?_
    rintro e wy ⟨rfl,hby,hky⟩
    have HU:=Xj (H6.o.next hby hky)
    clear hby hky p0 p1 p2 p3 p4 p5
    go_wp2_with fail
    refine(Yp B b _ [125,10] _ HU.o.bd (by simp only[List.length_append,List.length_cons,List.length_nil];omega)).mono ?_
    rintro e wz ⟨rfl,hbz,hkz⟩
    have HZ:=Xj (hjt.o _ _ (by rw[HBD.o];simp only[List.append_assoc,List.cons_append,List.nil_append]) hbz)
    have HKZ:=Xj (HK.o.trans (HU.o.wk.trans hkz))
    clear hbz hkz
    go_wp2_with fail
    go_roundw
    case rel=>exact⟨i+1,by omega,by go_num,HZ,HKZ⟩
    simp[intOf];omega
   have hbd:Ys x.k x.nm x.xs x.th x.el n=[105,102,32]++(Yw y.1 y.2++([32,123,10]++(Qz x.th (n+1)++(tabs n++([125]++([32,101,108,115,101,32,123,10]++(Qz x.el (n+1)++(tabs n++[125])))))))):=by unfold Ys;rw[hk,hvg];simp[he0]
   have HBD:=Xj hbd
   rw[hbd] at hfl
   simp only[List.length_append,List.length_cons,List.length_nil] at hfl
   have d4:(x.k != 4)=false:=by rw[hk];rfl
   have d5:(x.k != 5)=true:=by rw[hk];rfl
   have d6:(x.k==4)=true:=by rw[hk];rfl
   clear hbd hvg hk
   have dE:decide ((0:Int)<(x.el.len:Int))=true:=by rw[decide_eq_true_iff];omega
   have dE2:0<x.el.len:=by omega
   clear he0
   go_wp2_with fail
   refine(Yp B b _ [105,102,32] _ HY.o.bd (by simp only[List.length_append,List.length_cons,List.length_nil];omega)).mono ?_
   rintro e w3 ⟨rfl,hb3,hk3⟩
   have H3:=Xj (HY.o.next hb3 hk3)
   clear hb3 hk3 p0 p1 p2 p3 p4 p5
   obtain⟨b1,o1,as0,cs0,rfl,HA0,k0,k1,k2,k3,k4,k5⟩:=Vx H3.o.xa HYY.o
   obtain⟨p0,p1,p2,p3,p4,p5⟩:=Xl H3.o.row
   rw[HLN.o] at p3
   go_wp2_with fail
   refine(HE.o _ _ B b _ HA0.o H3.o.bd (by simp only[List.length_append,List.length_cons,List.length_nil];omega)).mono ?_
   rintro e w4 ⟨rfl,hb4,hk4⟩
   have H4:=Xj (H3.o.next hb4 hk4)
   clear hb4 hk4 p0 p1 p2 p3 p4 p5 k0 k1 k2 k3 k4 k5
   go_wp2_with fail
   refine(Yp B b _ [32,123,10] _ H4.o.bd (by simp only[List.length_append,List.length_cons,List.length_nil];omega)).mono ?_
   rintro e w5 ⟨rfl,hb5,hk5⟩
   have H5:=Xj (H4.o.next hb5 hk5)
   obtain⟨p0,p1,p2,p3,p4,p5⟩:=Xl H5.o.row
   clear hb5 hk5
   go_wp2_with fail
   refine(HSS.o.1 _ _ _ B b _ (n+1) _ (by push_cast;rfl) (by omega) H5.o.ta H5.o.bd (by simp only[List.length_append,List.length_cons,List.length_nil];omega)).mono ?_
   rintro e w6 ⟨rfl,hb6,hk6⟩
   have H6:=Xj (H5.o.next hb6 hk6)
   clear hb6 hk6 p0 p1 p2 p3 p4 p5
   obtain⟨p0,p1,p2,p3,p4,p5⟩:=Xl H6.o.row
   go_wp2_with fail
   refine(Jn n (by omega) _ B b _ H6.o.bd (by simp only[List.length_append,List.length_cons,List.length_nil];omega)).mono ?_
   rintro e w7 ⟨rfl,hb7,hk7⟩
   have H7:=Xj (H6.o.next hb7 hk7)
   clear hb7 hk7 p0 p1 p2 p3 p4 p5
   go_wp2_with fail
   refine(Yp B b _ [125,32,101,108,115,101,32,123,10] _ H7.o.bd (by simp only[List.length_append,List.length_cons,List.length_nil];omega)).mono ?_
   rintro e w8 ⟨rfl,hb8,hk8⟩
   have H8:=Xj (H7.o.next hb8 hk8)
   obtain⟨p0,p1,p2,p3,p4,p5⟩:=Xl H8.o.row
   clear hb8 hk8
   go_wp2_with fail
   refine(HSS.o.2 _ _ _ B b _ (n+1) _ (by push_cast;rfl) (by omega) H8.o.ea H8.o.bd (by simp only[List.length_append,List.length_cons,List.length_nil];omega)).mono ?_
   rintro e w9 ⟨rfl,hb9,hk9⟩
   have H9:=Xj (H8.o.next hb9 hk9)
   clear hb9 hk9 p0 p1 p2 p3 p4 p5
   obtain⟨p0,p1,p2,p3,p4,p5⟩:=Xl H9.o.row
   go_wp2_with fail
   refine(Jn n (by omega) _ B b _ H9.o.bd (by simp only[List.length_append,List.length_cons,List.length_nil];omega)).mono ?_
   rintro e wy ⟨rfl,hby,hky⟩
   have HU:=Xj (H9.o.next hby hky)
   clear hby hky p0 p1 p2 p3 p4 p5
   go_wp2_with fail
   refine(Yp B b _ [125,10] _ HU.o.bd (by simp only[List.length_append,List.length_cons,List.length_nil];omega)).mono ?_
   rintro e wz ⟨rfl,hbz,hkz⟩
   have HZ:=Xj (hjt.o _ _ (by rw[HBD.o];simp only[List.append_assoc,List.cons_append,List.nil_append]) hbz)
   have HKZ:=Xj (HK.o.trans (HU.o.wk.trans hkz))
   clear hbz hkz
   go_wp2_with fail
   go_roundw
   case rel=>exact⟨i+1,by omega,by go_num,HZ,HKZ⟩
   simp[intOf];omega
  have hbd:Ys x.k x.nm x.xs x.th x.el n=[119,104,105,108,101,32]++(Yw y.1 y.2++([32,123,10]++(Qz x.th (n+1)++(tabs n++[125])))):=by unfold Ys;rw[hk,hvg];simp
  have HBD:=Xj hbd
  rw[hbd] at hfl
  simp only[List.length_append,List.length_cons,List.length_nil] at hfl
  have d4:(x.k != 4)=true:=by rw[hk];rfl
  have d5:(x.k != 5)=false:=by rw[hk];rfl
  have d6:(x.k==4)=false:=by rw[hk];rfl
  clear hbd hvg hk
  have he0:x.el.len=0:=by rw[hel];rfl
  rw[he0] at p5
  have HE0:=Xj he0
  clear he0 hel
  go_wp2_with fail
  refine(Yp B b _ [119,104,105,108,101,32] _ HY.o.bd (by simp only[List.length_append,List.length_cons,List.length_nil];omega)).mono ?_
  rintro e w3 ⟨rfl,hb3,hk3⟩
  have H3:=Xj (HY.o.next hb3 hk3)
  clear hb3 hk3 p0 p1 p2 p3 p4 p5
  obtain⟨b1,o1,as0,cs0,rfl,HA0,k0,k1,k2,k3,k4,k5⟩:=Vx H3.o.xa HYY.o
  obtain⟨p0,p1,p2,p3,p4,p5⟩:=Xl H3.o.row
  rw[HLN.o] at p3
  go_wp2_with fail
  refine(HE.o _ _ B b _ HA0.o H3.o.bd (by simp only[List.length_append,List.length_cons,List.length_nil];omega)).mono ?_
  rintro e w4 ⟨rfl,hb4,hk4⟩
  have H4:=Xj (H3.o.next hb4 hk4)
  clear hb4 hk4 p0 p1 p2 p3 p4 p5 k0 k1 k2 k3 k4 k5
  go_wp2_with fail
  refine(Yp B b _ [32,123,10] _ H4.o.bd (by simp only[List.length_append,List.length_cons,List.length_nil];omega)).mono ?_
  rintro e w5 ⟨rfl,hb5,hk5⟩
  have H5:=Xj (H4.o.next hb5 hk5)
  obtain⟨p0,p1,p2,p3,p4,p5⟩:=Xl H5.o.row
  clear hb5 hk5
  go_wp2_with fail
  refine(HSS.o.1 _ _ _ B b _ (n+1) _ (by push_cast;rfl) (by omega) H5.o.ta H5.o.bd (by simp only[List.length_append,List.length_cons,List.length_nil];omega)).mono ?_
  rintro e w6 ⟨rfl,hb6,hk6⟩
  have H6:=Xj (H5.o.next hb6 hk6)
  clear hb6 hk6 p0 p1 p2 p3 p4 p5
  obtain⟨p0,p1,p2,p3,p4,p5⟩:=Xl H6.o.row
  rw[HE0.o] at p5
  go_wp2_with fail
  refine(Jn n (by omega) _ B b _ H6.o.bd (by simp only[List.length_append,List.length_cons,List.length_nil];omega)).mono ?_
  rintro e wy ⟨rfl,hby,hky⟩
  have HU:=Xj (H6.o.next hby hky)
  clear hby hky p0 p1 p2 p3 p4 p5
  go_wp2_with fail
  refine(Yp B b _ [125,10] _ HU.o.bd (by simp only[List.length_append,List.length_cons,List.length_nil];omega)).mono ?_
  rintro e wz ⟨rfl,hbz,hkz⟩
  have HZ:=Xj (hjt.o _ _ (by rw[HBD.o];simp only[List.append_assoc,List.cons_append,List.nil_append]) hbz)
  have HKZ:=Xj (HK.o.trans (HU.o.wk.trans hkz))
  clear hbz hkz
  go_wp2_with fail
  go_roundw
  case rel=>exact⟨i+1,by omega,by go_num,HZ,HKZ⟩
  simp[intOf];omega
 obtain rfl:i=N:=by omega
 have HF:Xq (Qz (S.pre i) n=Qz S n):=Xj (by rw[<- HN.o,Sf.pre_all])
 go_wp2_with fail
 refine bodyPost_ret (results_none rfl _ _ _) rfl ?_
 exact⟨rfl,by rw[<- HF.o];exact HR.o,HK.o⟩
theorem xvk (S:Sf) (hw:S.pr):PS S/\∀ i x,S.get i=some x->PS x.th/\PS x.el:=by
 induction S with
 | nil=>exact⟨Es .nil hw (λ i x h=>nomatch h),λ i x h=>nomatch h⟩
 | cons k ln nm xs th el r ih1 ih2 ih3 =>
  have key:∀ i x,Sf.get (.cons k ln nm xs th el r) i=some x->PS x.th/\PS x.el:=λ i x h=>by
   cases i with
   | zero =>
    injection h with h
    subst h
    exact⟨(ih1 hw.2.2.1).1,(ih2 hw.2.2.2.1).1⟩
   | succ i=>exact(ih3 hw.2.2.2.2).2 i x h
  exact⟨Es _ hw key,key⟩
theorem Zb.got {w:World} {P:Nat->Prop} {F:Fo} {cs:List Value} (h:Zb w P F cs) {j:Nat} {x:Hd×Fo} (hj:F.get j=some x):∃ sl,Xk w P x.2 sl/\∀ i u,(hdc x.1 sl)[i]?=some u->cs[j*6+i]?=some u:=by
 induction F generalizing cs j with
 | nil=>cases hj
 | cons hd ar r _ ih =>
  obtain⟨a,cap,rws,cs',rfl,h1,h2,h3,h4,h5,h6⟩:=h
  cases j with
  | zero =>
   have e:(hd,ar)=x:=by injection hj
   subst e
   refine⟨_,⟨a,cap,rws,rfl,h1,h2,h3,h4,h5⟩,λ i u hi=>?_⟩
   have:i<6:=(List.getElem?_eq_some_iff.1 hi).1
   rw[Nat.zero_mul,Nat.zero_add,List.getElem?_append_left (by simpa using this)]
   exact hi
  | succ j =>
   obtain⟨sl,k1,k2⟩:=ih h6 hj
   refine⟨sl,k1,λ i u hi=>?_⟩
   rw[List.getElem?_append_right (by show 6<=_;omega)]
   have e:(j+1)*6+i-6=j*6+i:=by omega
   show cs'[(j+1)*6+i-6]?=_
   rw[e]
   exact k2 i u hi
theorem Xk.got {w:World} {P:Nat->Prop} {F:Fo} {a:Option Addr} {n c:Nat} (h:Xk w P F (.slice a n c)) {j:Nat} {x:Hd×Fo} (hj:F.get j=some x) :
  ∃ b off asl csl,a=some ⟨b,off,none⟩/\b<w.heap.size/\Xk w P x.2 (.slice asl x.2.len csl)/\w.cell? ⟨b,off+j*6,none⟩=some (.int .i64 x.1.k)/\w.cell? ⟨b,off+j*6+1,none⟩=some (.int .i64 x.1.op)/\w.cell? ⟨b,off+j*6+2,none⟩=some (.int .i64 x.1.v) /\
   w.cell? ⟨b,off+j*6+3,none⟩=some (.int .i64 x.1.ln)/\w.cell? ⟨b,off+j*6+4,none⟩=some (.string (st x.1.nm))/\w.cell? ⟨b,off+j*6+5,none⟩=some (.slice asl x.2.len csl):=by
 obtain⟨a',cap,rws,e,h1,h2,h3,h4,h5⟩:=h
 injection e with e1 e2 e3
 subst e1
 obtain⟨sl,hs,hc⟩:=h5.got hj
 have hc0:=hc 0 _ rfl
 obtain⟨b,off,ea,_,hb,hjl⟩:=h4 (λ e=>by rw[e] at hc0;cases hc0)
 have hk:∀ i u,(hdc x.1 sl)[i]?=some u->w.cell? ⟨b,off+(j*6+i),none⟩=some u:=λ i u hi=>hjl _ _ (hc i u hi)
 obtain⟨asl,csl,rw2,rfl,q⟩:=hs
 refine⟨b,off,asl,csl,ea,hb,⟨asl,csl,rw2,rfl,q⟩,hk 0 _ rfl,?_,?_,?_,?_,?_⟩<;>rw[Nat.add_assoc]
 ·exact hk 1 _ rfl
 ·exact hk 2 _ rfl
 ·exact hk 3 _ rfl
 ·exact hk 4 _ rfl
 exact hk 5 _ rfl
theorem Xk.le {w:World} {P:Nat->Prop} {F:Fo} {v:Value} (h:Xk w P F v):∃ a c,v=.slice a F.len c/\F.len<=maxLen:=by
 obtain⟨a,c,_,e,h1,h2,_⟩:=h
 exact⟨a,c,e,Nat.le_trans h1 h2⟩
theorem Fo.drop_zero (F:Fo):F.drop 0=F:=by cases F<;>rfl
structure Sx1 where
 k:Int
 ln:Int
 nm:Bt
 xs:Fo
 th:Sf
 el:Sf
def Sf.gt1:Sf->Nat->Option Sx1
 | .nil,_=>none
 | .cons k ln nm xs th el _,0=>some ⟨k,ln,nm,xs,th,el⟩
 | .cons _ _ _ _ _ _ r,i+1=>r.gt1 i
def Sf.drop:Sf->Nat->Sf
 | S,0=>S
 | .nil,_+1=>.nil
 | .cons _ _ _ _ _ _ r,i+1=>r.drop i
theorem Sf.drop_zero (S:Sf):S.drop 0=S:=by cases S<;>rfl
theorem Sf.drop_get {S:Sf} {i:Nat} {x:Sx1} (h:S.gt1 i=some x):S.drop i=.cons x.k x.ln x.nm x.xs x.th x.el (S.drop (i+1)):=by
 induction S generalizing i with
 | nil=>cases h
 | cons k ln nm xs th el r _ _ ih =>
  cases i with
  | zero=>injection h with h;subst h;cases r<;>rfl
  | succ i =>
   have:=ih (i:=i) h
   show r.drop i=_
   rw[this]
   rfl
theorem Sf.drop_len (S:Sf):S.drop S.len=.nil:=by
 induction S with
 | nil=>rfl
 | cons k ln nm xs th el r _ _ ih=>exact ih
theorem Zp.got {w:World} {P:Nat->Prop} {S:Sf} {cs:List Value} (h:Zp w P S cs) {j:Nat} {x:Sx1} (hj:S.gt1 j=some x):∃ sl vt ve,Xk w P x.xs sl/\Xf w P x.th vt/\Xf w P x.el ve/\∀ i u,(stc x.k x.ln x.nm sl vt ve)[i]?=some u->cs[j*6+i]?=some u:=by
 induction S generalizing cs j with
 | nil=>cases hj
 | cons k ln nm xs th el r _ _ ih =>
  obtain⟨slx,at_,ct,rt,ae,ce,re,cs',rfl,h1,h2,h3,h4,h5,h6,h7,h8,h9,h10,h11,h12⟩:=h
  cases j with
  | zero =>
   have e:(⟨k,ln,nm,xs,th,el⟩:Sx1)=x:=by injection hj
   subst e
   refine⟨_,_,_,h1,⟨at_,ct,rt,rfl,h2,h3,h4,h5,h6⟩,⟨ae,ce,re,rfl,h7,h8,h9,h10,h11⟩,λ i u hi=>?_⟩
   have:i<6:=(List.getElem?_eq_some_iff.1 hi).1
   rw[Nat.zero_mul,Nat.zero_add,List.getElem?_append_left (by simpa using this)]
   exact hi
  | succ j =>
   obtain⟨sl,vt,ve,k1,k2,k3,k4⟩:=ih h12 hj
   refine⟨sl,vt,ve,k1,k2,k3,λ i u hi=>?_⟩
   rw[List.getElem?_append_right (by show 6<=_;omega)]
   have e:(j+1)*6+i-6=j*6+i:=by omega
   show cs'[(j+1)*6+i-6]?=_
   rw[e]
   exact k4 i u hi
theorem Xf.le {w:World} {P:Nat->Prop} {S:Sf} {v:Value} (h:Xf w P S v):∃ a c,v=.slice a S.len c/\S.len<=maxLen:=by
 obtain⟨a,c,_,e,h1,h2,_⟩:=h
 exact⟨a,c,e,Nat.le_trans h1 h2⟩
theorem Xf.got {w:World} {P:Nat->Prop} {S:Sf} {a:Option Addr} {n c:Nat} (h:Xf w P S (.slice a n c)) {j:Nat} {x:Sx1} (hj:S.gt1 j=some x) :
  ∃ b off axs cxs ath cth ael cel,a=some ⟨b,off,none⟩/\b<w.heap.size/\Xk w P x.xs (.slice axs x.xs.len cxs)/\Xf w P x.th (.slice ath x.th.len cth)/\Xf w P x.el (.slice ael x.el.len cel)/\w.cell? ⟨b,off+j*6,none⟩=some (.int .i64 x.k)/\w.cell? ⟨b,off+j*6+1,none⟩=some (.int .i64 x.ln)/\w.cell? ⟨b,off+j*6+2,none⟩=some (.string (st x.nm)) /\
   w.cell? ⟨b,off+j*6+3,none⟩=some (.slice axs x.xs.len cxs)/\w.cell? ⟨b,off+j*6+4,none⟩=some (.slice ath x.th.len cth)/\w.cell? ⟨b,off+j*6+5,none⟩=some (.slice ael x.el.len cel):=by
 obtain⟨a',cap,rws,e,h1,h2,h3,h4,h5⟩:=h
 injection e with e1 e2 e3
 subst e1
 obtain⟨sl,vt,ve,hx,ht,he,hc⟩:=h5.got hj
 have hc0:=hc 0 _ rfl
 obtain⟨b,off,ea,_,hb,hjl⟩:=h4 (λ e=>by rw[e] at hc0;cases hc0)
 have hk:∀ i u,(stc x.k x.ln x.nm sl vt ve)[i]?=some u->w.cell? ⟨b,off+(j*6+i),none⟩=some u:=λ i u hi=>hjl _ _ (hc i u hi)
 obtain⟨axs,cxs,rfl,_⟩:=hx.le
 obtain⟨ath,cth,rfl,_⟩:=ht.le
 obtain⟨ael,cel,rfl,_⟩:=he.le
 refine⟨b,off,axs,cxs,ath,cth,ael,cel,ea,hb,hx,ht,he,hk 0 _ rfl,?_,?_,?_,?_,?_⟩<;>rw[Nat.add_assoc]
 ·exact hk 1 _ rfl
 ·exact hk 2 _ rfl
 ·exact hk 3 _ rfl
 ·exact hk 4 _ rfl
 exact hk 5 _ rfl
theorem Im (a b:Bt) (x y:Int) (W:World):(binOp .neq 60 (.agg #[.string (st a),.int .i64 x]) (.agg #[.string (st b),.int .i64 y])).run Tryz.prog W=.ok (.bool (!(a==b&&x==y))) W:=by
 have h1:(st a).toList=a:=by simp
 have h2:(st b).toList=b:=by simp
 rw[run_neq_struct]
 go_simp
 by_cases h:a=b<;>by_cases k:x=y<;>simp[h,k]
theorem xxm (gs:List (Bt×Int)) (j:Nat) (x:Bt×Int) (h:gs[j]?=some x):(gcs gs)[j*2]?=some (.string (st x.1))/\(gcs gs)[j*2+1]?=some (.int .i64 x.2):=by
 induction gs generalizing j with
 | nil=>cases h
 | cons g gs ih =>
  cases j with
  | zero =>
   have e:g=x:=by simpa using h
   subst e
   exact⟨rfl,rfl⟩
  | succ j =>
   have:=ih j (by simpa using h)
   rw[show (j+1)*2=j*2+1+1 by omega]
   exact this
theorem Jy.gg {w:World} {P:Nat->Prop} {gs:List (Bt×Int)} {fs:List Fu} {ga:Option Addr} {n c:Nat} {vb:Value} (h:Jy w P gs fs (.slice ga n c) vb) {j:Nat} {x:Bt×Int} (hj:gs[j]?=some x) :
  ∃ b off,ga=some ⟨b,off,none⟩/\b<w.heap.size/\w.cell? ⟨b,off+j*2,none⟩=some (.string (st x.1))/\w.cell? ⟨b,off+j*2+1,none⟩=some (.int .i64 x.2):=by
 obtain⟨ga',gc,fa,fc,ys,h1,h2,h3,h4,h5,h6,h7,h8,h9⟩:=h
 injection h1 with e1 e2 e3
 subst e1
 obtain⟨k1,k2⟩:=xxm gs j x hj
 obtain⟨b,off,e,_,hb,hc⟩:=h7 (λ e=>by rw[e] at k1;cases k1)
 exact⟨b,off,e,hb,hc _ _ k1,by rw[Nat.add_assoc];exact hc _ _ k2⟩
theorem Vd.got {w:World} {P:Nat->Prop} {fs:List Fu} {cs:List Value} (h:Vd w P fs cs) {j:Nat} {x:Fu} (hj:fs[j]?=some x):∃ vp vb,Vw w P x.ps vp/\Xf w P x.S vb/\∀ i u,([.string (st x.nm),.int .i64 x.ln,vp,vb]:List Value)[i]?=some u->cs[j*4+i]?=some u:=by
 induction fs generalizing cs j with
 | nil=>cases hj
 | cons f fs ih =>
  obtain⟨vp,vb,cs',e,h1,h2,h3⟩:=h
  cases j with
  | zero =>
   have ef:f=x:=by simpa using hj
   subst ef
   refine⟨vp,vb,h1,h2,λ i u hi=>?_⟩
   have:i<4:=(List.getElem?_eq_some_iff.1 hi).1
   rw[e,Nat.zero_mul,Nat.zero_add,List.getElem?_append_left (by simpa using this)]
   exact hi
  | succ j =>
   obtain⟨vp2,vb2,k1,k2,k3⟩:=ih h3 (by simpa using hj)
   refine⟨vp2,vb2,k1,k2,λ i u hi=>?_⟩
   rw[e,List.getElem?_append_right (by show 4<=_;omega)]
   have e2:(j+1)*4+i-4=j*4+i:=by omega
   show cs'[(j+1)*4+i-4]?=_
   rw[e2]
   exact k3 i u hi
theorem Jy.gf {w:World} {P:Nat->Prop} {gs:List (Bt×Int)} {fs:List Fu} {fa:Option Addr} {n c:Nat} {va:Value} (h:Jy w P gs fs va (.slice fa n c)) {j:Nat} {x:Fu} (hj:fs[j]?=some x) :
  ∃ b off ap cp ab cb,fa=some ⟨b,off,none⟩/\b<w.heap.size/\Vw w P x.ps (.slice ap x.ps.length cp)/\Xf w P x.S (.slice ab x.S.len cb)/\w.cell? ⟨b,off+j*4,none⟩=some (.string (st x.nm))/\w.cell? ⟨b,off+j*4+1,none⟩=some (.int .i64 x.ln)/\w.cell? ⟨b,off+j*4+2,none⟩=some (.slice ap x.ps.length cp)/\w.cell? ⟨b,off+j*4+3,none⟩=some (.slice ab x.S.len cb):=by
 obtain⟨ga,gc,fa',fc,ys,h1,h2,h3,h4,h5,h6,h7,h8,h9⟩:=h
 injection h2 with e1 e2 e3
 subst e1
 obtain⟨vp,vb,k1,k2,k3⟩:=h9.got hj
 have k0:=k3 0 _ rfl
 obtain⟨b,off,e,_,hb,hc⟩:=h8 (λ e=>by rw[e] at k0;cases k0)
 obtain⟨ap,cp,rfl,_⟩:=id k1
 obtain⟨ab,cb,rfl,_⟩:=k2.le
 refine⟨b,off,ap,cp,ab,cb,e,hb,k1,k2,hc _ _ k0,?_,?_,?_⟩<;>rw[Nat.add_assoc]
 ·exact hc _ _ (k3 1 _ rfl)
 ·exact hc _ _ (k3 2 _ rfl)
 exact hc _ _ (k3 3 _ rfl)
theorem Vw.got {w:World} {P:Nat->Prop} {ps:List Bt} {a:Option Addr} {n c:Nat} (h:Vw w P ps (.slice a n c)) {j:Nat} {x:Bt} (hj:ps[j]?=some x):∃ b off,a=some ⟨b,off,none⟩/\b<w.heap.size/\w.cell? ⟨b,off+j,none⟩=some (.string (st x)):=by
 obtain⟨a',c',e,h1,h2,h3⟩:=h
 injection e with e1 e2 e3
 subst e1
 have hc:(ps.map λ x=>Value.string (st x))[j]?=some (.string (st x)):=by simp[hj]
 obtain⟨b,off,ea,_,hb,hk⟩:=h3 (λ e=>by rw[e] at hc;cases hc)
 exact⟨b,off,ea,hb,hk _ _ hc⟩
def xqh (l:Bool) (gs:List (Bt×Int)) (fs:List Fu) (gs2:List (Bt×Int)) (fs2:List Fu):Bool:=decide (gs=gs2)&&Jq l fs fs2
theorem Wz {w:World} {P:Nat->Prop} {gs:List (Bt×Int)} {fs:List Fu} {va vb:Value} (h:Jy w P gs fs va vb):∃ ga gc fa fc,va=.slice ga gs.length gc/\vb=.slice fa fs.length fc/\gs.length<=maxLen/\fs.length<=maxLen:=by
 obtain⟨ga,gc,fa,fc,ys,h1,h2,h3,h4,h5,h6,h7,h8,h9⟩:=h
 exact⟨ga,gc,fa,fc,h1,h2,by omega,by omega⟩
theorem Hs (ps:List Bt):Lib.join ps [44,32]=comm ps:=by
 match ps with
 | []=>rfl
 | [x]=>exact Lib.join_one _ _
 | x::y::r =>
  have ih:=Hs (y::r)
  rw[Lib.join_cons] at ih ⊢
  show x++Lib.joinTail [44,32] (y::r)=x++([44,32]++comm (y::r))
  rw[<- ih]
  simp[Lib.joinTail]
theorem Tt (ps:List Bt) (hl:(comm ps).length<=90000000) (hn:ps.length<=100000) (w:World) (P:Nat->Prop) (v:Value) (h:Vw w P ps v) :
  Calls Tryz.prog 44 #[v,.string (st [44,32])] w λ e w'=>e=.returned (.string (st (comm ps)))/\Below w.heap.size w w':=by
 obtain⟨a,c,rfl,h1,h2,h3⟩:=h
 by_cases h0:ps=[]
 ·subst h0
  exact(Tryz.strings_Join_none a c _ w).mono λ e w' ⟨he,hw⟩=>⟨he,hw▸Below.refl _ _⟩
 obtain⟨b,off,rfl,_,hb,hc⟩:=h3 (λ e=>h0 (by simpa using e))
 have hj:Lib.join ((ps.map st).map (·.data.toList)) (st [44,32]).data.toList=comm ps:=by
  rw[List.map_map]
  rw[show ((λ x:ByteArray=>x.data.toList)∘st)=id from rfl,List.map_id]
  exact Hs ps
 have:=Tryz.strings_Join b off c (ps.map st) (st [44,32]) w (λ j y hy=>by
  rw[List.getElem?_map] at hy
  obtain⟨x,hx,rfl⟩:=Option.map_eq_some_iff.1 hy
  exact hc j _ (by rw[List.getElem?_map,hx];rfl)) hb (by rw[List.length_map];omega) (by rw[List.length_map];exact h1) (by rw[hj];omega)
 rw[hj,List.length_map] at this
 exact this
def Ur (f:Fu):Bt:=Gm ⟨f.nm,f.ps,f.S⟩
def fmtU (gs:List (Bt×Int)) (fs:List Fu):Bt:=gs.flatMap Jt++fs.flatMap Ur
theorem Sr {α:Type} (f:α->Bt) (l:List α) (i:Nat) (x:α) (h:l[i]?=some x):(l.take (i+1)).flatMap f=(l.take i).flatMap f++f x:=by
 rw[List.take_add_one,h,Option.toList_some,List.flatMap_append,List.flatMap_cons,List.flatMap_nil,List.append_nil]
theorem Sn {α:Type} (f:α->Bt) (l:List α) (i:Nat):((l.take i).flatMap f).length<=(l.flatMap f).length:=by
 conv=>rhs;rw[<- List.take_append_drop i l,List.flatMap_append,List.length_append]
 omega
structure RX (B b:Nat) (t:Bt) (W w1:World) (g:Nat) (cs:Array Value) (T:TypeId):Prop where
 bd:Bd B b t w1
 wk:WK B b W w1
 row:w1.heap[g]?=some (.cells cs T (0,0))
 gb:b<g
 hT:T≠5
theorem RX.next {B b:Nat} {t t':Bt} {W w1 w2:World} {g:Nat} {cs:Array Value} {T:TypeId} (X:RX B b t W w1 g cs T) (hb:Bd B b t' w2) (hk:WK B b w1 w2):RX B b t' W w2 g cs T :=
 ⟨hb,X.wk.trans hk,hk.row X.row X.hT (by have:=X.gb;omega),X.gb,X.hT⟩
theorem RX.below {B b:Nat} {t:Bt} {W w1 w2:World} {g:Nat} {cs:Array Value} {T:TypeId} (X:RX B b t W w1 g cs T) (hk:Below w1.heap.size w1 w2):RX B b t W w2 g cs T :=
 X.next (X.bd.keep hk) (WK.of hk (by have:=X.bd.lt;omega))
theorem RX.new {B b:Nat} {t:Bt} {W w1:World} (hb:Bd B b t w1) (hk:WK B b W w1) (cs:Array Value) (T:TypeId) (hT:T≠5):RX B b t W (w1.alloc (.cells cs T)) w1.heap.size cs T:=by
 have h0:=Xw w1 (.cells cs T)
 have hl:=hb.lt
 exact⟨hb.keep h0,hk.trans (WK.of h0 (by omega)),heap_alloc_new w1 _,hl.2,hT⟩
theorem Jy.belowB {B:Nat} {w w':World} {gs:List (Bt×Int)} {fs:List Fu} {va vb:Value} (h:Jy w (λ k=>k<B) gs fs va vb) (hb:Below B w w'):Jy w' (λ k=>k<B) gs fs va vb:=h.keep (λ b h1 hlt=>⟨hb.block b h1,h1⟩) hb.size
theorem Em (gs:List (Bt×Int)) (fs:List Fu) (hg:∀ x∈gs,0<=x.2/\x.2<=9223372036854775807) (hf:∀ f∈fs,f.S.pr/\f.S.nst<=90/\f.ps.length<=100000) (hl:(fmtU gs fs).length<=80000000) (hne:fmtU gs fs≠[]) (w:World) (va vb:Value) (ha:Jy w (λ _=>True) gs fs va vb) (hw:Lad w) :
  Calls Tryz.prog 13 #[sov va vb] w λ e w'=>e=.returned (.string (st (fmtU gs fs)))/\Below w.heap.size w w':=by
 have HG:=Xj hg
 have HFF:=Xj hf
 have ha2:Jy w (λ k=>k<w.heap.size) gs fs va vb:=ha.keep (λ b _ hb=>⟨rfl,hb⟩) (Nat.le_refl _)
 have HLB:=Xj (LB.of hw)
 obtain⟨B,hB⟩:∃ B,w.heap.size=B:=⟨_,rfl⟩
 rw[hB] at ha2 HLB ⊢
 have ha3:=ha2
 obtain⟨ga,gc,fa,fc,ys,rfl,rfl,hgc,hpg,hfc,hwc,-⟩:=ha2
 have hjb:gc<=9223372036854775807/\fc<=9223372036854775807:=by unfold maxLen at hpg hwc;omega
 obtain⟨ng,hng⟩:∃ z,gs.length=z:=⟨_,rfl⟩
 obtain⟨nf,hnf⟩:∃ z,fs.length=z:=⟨_,rfl⟩
 rw[hng,hnf] at ha3
 rw[hng] at hgc ⊢
 rw[hnf] at hfc ⊢
 have HA:=Xj ha3
 have HNG:=Xj hng
 have HNF:=Xj hnf
 have HNE:=Xj hne
 have HL:Xq ((gs.flatMap Jt).length+(fs.flatMap Ur).length<=80000000):=Xj (by unfold fmtU at hl;rw[List.length_append] at hl;exact hl)
 have hb1:=Xw w (.cells #[.slice ga ng gc,.slice fa nf fc] 29)
 have hr1:=heap_alloc_new w (.cells #[.slice ga ng gc,.slice fa nf fc] 29)
 clear ha ha3 hg hf hw hl hne hng hnf hpg hwc
 go_enter Tryz.func13,Tryz.ntmps13
 go_upto_region 1 with fail
 obtain⟨w1,hw1⟩:∃ W,w.alloc (.cells #[.slice ga ng gc,.slice fa nf fc] 29)=W:=⟨_,rfl⟩
 rw[hw1] at hb1 hr1
 (try rw[hw1])
 rw[hB] at hb1 hr1
 (try rw[hB])
 have hlt:=Xv hr1
 have HB1:=Xj hb1
 have HR1:=Xj hr1
 have hs1:w1.heap.size=B+1:=by rw[<- hw1,<- hB];simp
 clear hw1 hB hr1 hb1
 have hb2:=Xw w1 (.cells #[.pointer none,.slice none 0 0] 78)
 have hr2:=heap_alloc_new w1 (.cells #[.pointer none,.slice none 0 0] 78)
 rw[hs1] at hr2
 have HD2:Xq (Bd B (B+1) [] (w1.alloc (.cells #[.pointer none,.slice none 0 0] 78))):=Xj ⟨.inl ⟨by omega,.slice none 0 0,hr2,⟨rfl,.inl ⟨rfl,rfl⟩⟩,by simp[Value.ownBlock]⟩,HLB.o.below (HB1.o.trans (hb2.mono (by omega)))⟩
 have HA2:=Xj (HA.o.belowB (HB1.o.trans (hb2.mono (by omega))))
 have HB2:=Xj (HB1.o.trans (hb2.mono (by omega)))
 have HR2:=Xj ((hb2.block B hlt).trans HR1.o)
 go_upto_region 2 with fail
 obtain⟨w2,hw2⟩:∃ W,w1.alloc (.cells #[.pointer none,.slice none 0 0] 78)=W:=⟨_,rfl⟩
 rw[hw2] at HD2 HA2 HB2 HR2
 (try rw[hw2])
 (try rw[hs1])
 clear hw2 hb2 hr2 hlt hs1
 have p0:=cell_of_row _ _ 0 _ _ _ HR2.o
 go_upto_block 0 with fail
 go_wp2_with fail
 go_loopw [13] (λ v13 wr=>∃ i:Nat,i<=ng/\v13=.int .i64 i/\Xq (Bd B (B+1) ((gs.take i).flatMap Jt) wr)/\Xq (WK B (B+1) w2 wr)) (λ v13 _=>ng-(intOf v13).toNat)
 case atStart=>exact⟨0,by omega,rfl,Xj HD2.o,Xj (WK.refl _ _ _)⟩
 rename World=>wr
 obtain⟨i,hi,rfl,HR,HK⟩:=hrel
 by_cases hlti:i<ng
 ·obtain⟨x,hx⟩:∃ x,gs[i]?=some x:=⟨_,List.getElem?_eq_getElem (by rw[HNG.o];exact hlti)⟩
  have hxg:=HG.o x (List.mem_of_getElem? hx)
  obtain⟨b0,o0,rfl,hbl,k0,k1⟩:=(HA2.o.belowB HK.o.be).gg hx
  have HFT:=Xj (Sr Jt gs i x hx)
  have hle:=Sn Jt gs (i+1)
  rw[HFT.o,List.length_append] at hle
  have hll:=HL.o
  have HX:=Xj (RX.new HR.o HK.o #[.string (st x.1),.int .i64 x.2] 60 (by decide))
  obtain⟨t,ht⟩:∃ z,(gs.take i).flatMap Jt=z:=⟨_,rfl⟩
  have HT:=Xj ht
  rw[ht] at HX hle
  clear hx ht
  go_upto_region 5 with fail
  obtain⟨wx,hwx⟩:∃ W,wr.alloc (.cells #[.string (st x.1),.int .i64 x.2] 60)=W:=⟨_,rfl⟩
  obtain⟨g,hgx⟩:∃ z,wr.heap.size=z:=⟨_,rfl⟩
  rw[hwx,hgx] at HX
  (try rw[hwx])
  (try rw[hgx])
  clear hwx hgx k0 k1 hbl
  have q0:=cell_of_row _ _ 0 _ _ _ HX.o.row
  have HXd:=Xj (HX.o.below (Below.refl _ _).drew)
  have hst:=Kj
  by_cases hsz:0<x.2
  ·have hfg:Jt x=[103,108,111,98,97,108,32]++(x.1++(([91]++(Lib.decDigits x.2.toNat++[93]))++[59,10])):=by unfold Jt;rw[if_pos hsz]
   have HFG:=Xj hfg
   have dsz:decide ((0:Int)<x.2)=true:=decide_eq_true hsz
   rw[hfg] at hle
   simp only[List.length_append,List.length_cons,List.length_nil] at hle
   clear hfg
   refine wp_region_held_drew (S:=(λ w'=>w'.cell? ⟨g,0,none⟩=some (.string (st x.1)))) (by kernel_rfl) q0 (λ hJ=>?_)
   refine tkH 0 17 ?_
   refine tkH 1 18 ?_
   refine tkH 2 19 ?_
   refine tkH 3 20 ?_
   refine tkH 4 21 ?_
   refine tkH 5 22 (v:=.string (st (103::108::111::98::97::108::32::x.1))) ?_ (hy:=by intro w hSw;go_simp;(try simp only[List.length_append,List.length_cons,List.length_nil]);omega)
   refine rdH 6 λ K0 hK=>?_
   go_simp
   refine(Yp B _ t (103::108::111::98::97::108::32::x.1) _ HXd.o.bd (by simp only[List.length_append,List.length_cons,List.length_nil];omega)).mono ?_
   rintro e w3 ⟨rfl,hb3,hk3⟩
   have HX2:=Xj (HXd.o.next hb3 hk3)
   refine goH hK (cell_of_row _ _ 0 _ _ _ HX2.o.row) λ hJ=>?_
   clear hb3 hk3 hK K0 q0
   refine wpAnyH_done (by kernel_rfl) ?_ _
   have q1:=cell_of_row _ _ 1 _ _ _ HX2.o.row
   go_upto_region 7 with fail
   have hit:Lib.itoa x.2=Lib.decDigits x.2.toNat:=by unfold Lib.itoa;rw[if_neg (by omega)]
   have HIT:=Xj hit
   have HX2d:=Xj (HX2.o.below (Below.refl _ _).drew)
   clear hit
   refine wp_region_held_drew (S:=(λ w'=>w'.cell? ⟨g,1,none⟩=some (.int .i64 x.2))) (by kernel_rfl) q1 (λ hJ=>?_)
   refine tkH 0 27 ?_
   refine tkH 1 28 ?_
   refine tkH 2 29 ?_
   refine tkH 3 30 ?_
   refine tkH 4 31 ?_
   refine rdH 5 λ K0 hK=>?_
   go_simp
   refine(Hx x.2 (by omega) (by omega) _ HX2d.o.bd.lb.lad).mono ?_
   rintro e w4 ⟨rfl,hb4⟩
   have HX4:=Xj (HX2d.o.below hb4)
   rw[HIT.o]
   refine goH hK (cell_of_row _ _ 1 _ _ _ HX4.o.row) λ hJ=>?_
   clear hb4 hK K0 q1
   obtain⟨dg,hdg⟩:∃ z,Lib.decDigits x.2.toNat=z:=⟨_,rfl⟩
   rw[hdg] at hle ⊢
   have HDG:=Xj hdg
   clear hdg
   refine tkH 6 33 (v:=.string (st (91::dg))) ?_ (hy:=by intro w hSw;go_simp;(try simp only[List.length_append,List.length_cons,List.length_nil]);omega)
   refine tkH 7 34 (v:=.string (st (91::(dg++[93])))) ?_ (hy:=by intro w hSw;go_simp;(try simp only[List.length_append,List.length_cons,List.length_nil]);omega)
   refine rdH 8 λ K0 hK=>?_
   go_simp
   refine(Yp B _ _ (91::(dg++[93])) _ HX4.o.bd (by simp only[List.length_append,List.length_cons,List.length_nil];omega)).mono ?_
   rintro e w5 ⟨rfl,hb5,hk5⟩
   have HX5:=Xj (HX4.o.next hb5 hk5)
   refine goH hK (cell_of_row _ _ 1 _ _ _ HX5.o.row) λ hJ=>?_
   clear hb5 hk5 hK K0
   refine wpAnyH_done (by kernel_rfl) ?_ _
   clear hst
   go_wp2_with fail
   refine(Yp B _ _ [59,10] _ HX5.o.bd (by simp only[List.length_append,List.length_cons,List.length_nil];omega)).mono ?_
   rintro e w6 ⟨rfl,hb6,hk6⟩
   have HZ:Xq (Bd B (B+1) ((gs.take (i+1)).flatMap Jt) w6):=Xj (by
    rw[HFT.o,HT.o,HFG.o,HDG.o]
    simpa [List.append_assoc] using hb6)
   have HKZ:=Xj (HX5.o.wk.trans hk6)
   clear hb6 hk6
   go_wp2_with fail
   go_roundw
   case rel=>exact⟨i+1,by omega,by go_num,HZ,HKZ⟩
   simp[intOf];omega
  have hfg:Jt x=[103,108,111,98,97,108,32]++(x.1++[59,10]):=by unfold Jt;rw[if_neg hsz];simp
  have HFG:=Xj hfg
  have dsz:decide ((0:Int)<x.2)=false:=decide_eq_false hsz
  rw[hfg] at hle
  simp only[List.length_append,List.length_cons,List.length_nil] at hle
  clear hfg
  refine wp_region_held_drew (S:=(λ w'=>w'.cell? ⟨g,0,none⟩=some (.string (st x.1)))) (by kernel_rfl) q0 (λ hJ=>?_)
  refine tkH 0 17 ?_
  refine tkH 1 18 ?_
  refine tkH 2 19 ?_
  refine tkH 3 20 ?_
  refine tkH 4 21 ?_
  refine tkH 5 22 (v:=.string (st (103::108::111::98::97::108::32::x.1))) ?_ (hy:=by intro w hSw;go_simp;(try simp only[List.length_append,List.length_cons,List.length_nil]);omega)
  refine rdH 6 λ K0 hK=>?_
  go_simp
  refine(Yp B _ t (103::108::111::98::97::108::32::x.1) _ HXd.o.bd (by simp only[List.length_append,List.length_cons,List.length_nil];omega)).mono ?_
  rintro e w3 ⟨rfl,hb3,hk3⟩
  have HX2:=Xj (HXd.o.next hb3 hk3)
  refine goH hK (cell_of_row _ _ 0 _ _ _ HX2.o.row) λ hJ=>?_
  clear hb3 hk3 hK K0 q0
  refine wpAnyH_done (by kernel_rfl) ?_ _
  have q1:=cell_of_row _ _ 1 _ _ _ HX2.o.row
  clear hst
  go_wp2_with fail
  refine(Yp B _ _ [59,10] _ HX2.o.bd (by simp only[List.length_append,List.length_cons,List.length_nil];omega)).mono ?_
  rintro e w6 ⟨rfl,hb6,hk6⟩
  have HZ:Xq (Bd B (B+1) ((gs.take (i+1)).flatMap Jt) w6):=Xj (by
   rw[HFT.o,HT.o,HFG.o]
   simpa [List.append_assoc] using hb6)
  have HKZ:=Xj (HX2.o.wk.trans hk6)
  clear hb6 hk6 q1
  go_wp2_with fail
  go_roundw
  case rel=>exact⟨i+1,by omega,by go_num,HZ,HKZ⟩
  simp[intOf];omega
 obtain rfl:i=ng:=by omega
 have HGT:Xq ((gs.take i).flatMap Jt=gs.flatMap Jt):=Xj (by rw[<- HNG.o,List.take_length])
 have hr:=HR.o
 rw[HGT.o] at hr
 have HR3:=Xj hr
 have HRS:=Xj (HK.o.row HR2.o (by decide) (by omega))
 have p1:=cell_of_row _ _ 1 _ _ _ HRS.o
 clear hr
 go_upto_block 2 with fail
 go_wp2_with fail
 go_loopw [44] (λ v44 wq=>∃ j:Nat,j<=nf/\v44=.int .i64 j/\Xq (Bd B (B+1) (gs.flatMap Jt++(fs.take j).flatMap Ur) wq)/\Xq (WK B (B+1) w2 wq)) (λ v44 _=>nf-(intOf v44).toNat)
 case atStart=>exact⟨0,by omega,rfl,Xj (by simpa using HR3.o),HK⟩
 rename World=>wq
 obtain⟨j,hj,rfl,HQ,HKQ⟩:=hrel
 by_cases hltj:j<nf
 ·obtain⟨f,hx⟩:∃ f,fs[j]?=some f:=⟨_,List.getElem?_eq_getElem (by rw[HNF.o];exact hltj)⟩
  have hfp:=HFF.o f (List.mem_of_getElem? hx)
  obtain⟨b0,o0,ap,cp,ab,cb,rfl,hbl,hps,hsf,k0,k1,k2,k3⟩:=(HA2.o.belowB HKQ.o.be).gf hx
  have HFT:=Xj (Sr Ur fs j f hx)
  have hle:=Sn Ur fs (j+1)
  rw[HFT.o,List.length_append] at hle
  have hll:=HL.o
  have HX:=Xj (RX.new HQ.o HKQ.o #[.string (st f.nm),.int .i64 f.ln,.slice ap f.ps.length cp,.slice ab f.S.len cb] 63 (by decide))
  have h0:=Xw wq (.cells #[.string (st f.nm),.int .i64 f.ln,.slice ap f.ps.length cp,.slice ab f.S.len cb] 63)
  have HPS:=Xj (hps.keep (Q:=λ k=>k<B) (λ b hb hlt=>⟨h0.block b hlt,hb⟩) h0.size)
  have HSF:=Xj (hsf.keep (Q:=λ k=>k<B) (λ b hb hlt=>⟨h0.block b hlt,hb⟩) h0.size)
  obtain⟨t,ht⟩:∃ z,gs.flatMap Jt++(fs.take j).flatMap Ur=z:=⟨_,rfl⟩
  have htl:t.length=(gs.flatMap Jt).length+((fs.take j).flatMap Ur).length:=by rw[<- ht,List.length_append]
  have HT:=Xj ht
  rw[ht] at HX
  have hfg:Ur f=[102,117,110,99,32]++(f.nm++([40]++(comm f.ps++([41,32,123,10]++(Qz f.S 1++[125,10]))))):=rfl
  have HFG:=Xj hfg
  rw[hfg] at hle
  simp only[List.length_append,List.length_cons,List.length_nil] at hle
  clear hx ht hps hsf hfg h0
  go_upto_region 13 with fail
  obtain⟨wx,hwx⟩:∃ W,wq.alloc (.cells #[.string (st f.nm),.int .i64 f.ln,.slice ap f.ps.length cp,.slice ab f.S.len cb] 63)=W:=⟨_,rfl⟩
  obtain⟨g,hgx⟩:∃ z,wq.heap.size=z:=⟨_,rfl⟩
  rw[hwx] at HX HPS HSF
  rw[hgx] at HX
  (try rw[hwx])
  (try rw[hgx])
  clear hwx hgx k0 k1 k2 k3 hbl
  have q0:=cell_of_row _ _ 0 _ _ _ HX.o.row
  have q2:=cell_of_row _ _ 2 _ _ _ HX.o.row
  have HXd:=Xj (HX.o.below (Below.refl _ _).drew)
  have HPSd:=Xj (HPS.o.keep (Q:=λ k=>k<B) (λ b hb hlt=>⟨rfl,hb⟩) (Nat.le_refl wx.heap.size):Vw wx.drew (λ k=>k<B) f.ps _)
  have hst:=Kj
  obtain⟨cs,hcs⟩:∃ z,comm f.ps=z:=⟨_,rfl⟩
  have HCS:=Xj hcs
  rw[hcs] at hle
  clear hcs
  refine wp_region_held_drew (S:=(λ w'=>w'.cell? ⟨g,0,none⟩=some (.string (st f.nm))/\w'.cell? ⟨g,2,none⟩=some (.slice ap f.ps.length cp))) (by kernel_rfl) ⟨q0,q2⟩ (λ hJ=>?_)
  refine tkH 0 48 ?_
  refine tkH 1 49 ?_
  refine tkH 2 50 ?_
  refine tkH 3 51 ?_
  refine tkH 4 52 ?_
  refine tkH 5 53 (v:=.string (st (102::117::110::99::32::f.nm))) ?_ (hy:=by intro w hSw;go_simp;(try simp only[List.length_append,List.length_cons,List.length_nil]);omega)
  refine tkH 6 54 (v:=.string (st (102::117::110::99::32::(f.nm++[40])))) ?_ (hy:=by intro w hSw;go_simp;(try simp only[List.length_append,List.length_cons,List.length_nil]);omega)
  refine tkH 7 55 ?_
  refine tkH 8 56 ?_
  refine rdH 9 λ K0 hK=>?_
  go_simp
  refine(Tt f.ps (by rw[HCS.o];omega) hfp.2.2 _ _ _ HPSd.o).mono ?_
  rintro e w4 ⟨rfl,hb4⟩
  have HX4:=Xj (HXd.o.below hb4)
  rw[HCS.o]
  refine goH hK ⟨cell_of_row _ _ 0 _ _ _ HX4.o.row,cell_of_row _ _ 2 _ _ _ HX4.o.row⟩ λ hJ=>?_
  clear hK K0
  refine tkH 10 58 (v:=.string (st (102::117::110::99::32::(f.nm++40::cs)))) ?_ (hy:=by intro w hSw;go_simp;(try simp only[List.length_append,List.length_cons,List.length_nil]);omega)
  refine tkH 11 59 (v:=.string (st (102::117::110::99::32::(f.nm++40::(cs++[41,32,123,10]))))) ?_ (hy:=by intro w hSw;go_simp;(try simp only[List.length_append,List.length_cons,List.length_nil]);omega)
  refine rdH 12 λ K0 hK=>?_
  go_simp
  refine(Yp B _ _ (102::117::110::99::32::(f.nm++40::(cs++[41,32,123,10]))) _ HX4.o.bd (by simp only[List.length_append,List.length_cons,List.length_nil];omega)).mono ?_
  rintro e w5 ⟨rfl,hb5,hk5⟩
  have HX5:=Xj (HX4.o.next hb5 hk5)
  refine goH hK ⟨cell_of_row _ _ 0 _ _ _ HX5.o.row,cell_of_row _ _ 2 _ _ _ HX5.o.row⟩ λ hJ=>?_
  have HSF5:=Xj (HSF.o.belowB (((Below.refl B wx).drew.trans (hb4.mono (show B<=wx.drew.heap.size by have:=HX.o.bd.lt;show B<=wx.heap.size;omega))).trans hk5.be))
  clear hb4 hb5 hk5 hK K0 q0 q2 hst
  refine wpAnyH_done (by kernel_rfl) ?_ _
  have q3:=cell_of_row _ _ 3 _ _ _ HX5.o.row
  go_wp2_with fail
  refine((xvk f.S hfp.1).1 _ _ _ B _ _ 1 1 rfl (by have:=hfp.2.1;omega) HSF5.o HX5.o.bd (by simp only[List.length_append,List.length_cons,List.length_nil];omega)).mono ?_
  rintro e w6 ⟨rfl,hb6,hk6⟩
  have HX6:=Xj (HX5.o.next hb6 hk6)
  clear hb6 hk6 q3
  go_wp2_with fail
  refine(Yp B _ _ [125,10] _ HX6.o.bd (by simp only[List.length_append,List.length_cons,List.length_nil];omega)).mono ?_
  rintro e w7 ⟨rfl,hb7,hk7⟩
  have HZ:Xq (Bd B (B+1) (gs.flatMap Jt++(fs.take (j+1)).flatMap Ur) w7):=Xj (by
   rw[HFT.o,<- List.append_assoc,HT.o,HFG.o,HCS.o]
   simpa [List.append_assoc] using hb7)
  have HKZ:=Xj (HX6.o.wk.trans hk7)
  clear hb7 hk7
  go_wp2_with fail
  go_roundw
  case rel=>exact⟨j+1,by omega,by go_num,HZ,HKZ⟩
  simp[intOf];omega
 obtain rfl:j=nf:=by omega
 have hQ:=HQ.o
 rw[show (fs.take j).flatMap Ur=fs.flatMap Ur by rw[<- HNF.o,List.take_length]] at hQ
 have HQ2:=Xj (show Bd B (B+1) (fmtU gs fs) _ from hQ)
 clear hQ
 go_wp2_with fail
 refine(Sz B (B+1) _ _ HQ2.o.bw HNE.o).mono ?_
 rintro e w4 ⟨rfl,hb4⟩
 have HB4:=Xj (HB2.o.trans (HKQ.o.be.trans hb4))
 clear hb4
 go_wp2_with fail
 refine bodyPost_ret (v:=.string (st (fmtU gs fs))) (by simp[results,Tryz.results13,go_sem]) rfl ?_
 exact⟨rfl,HB4.o⟩
def WX (F:Fo):Prop:=∀ (P Q:Nat->Prop) (G:Fo) (va vb:Value) (w:World),Xk w P F va->Xk w Q G vb ->
 Calls Tryz.prog 58 #[va,vb,.func (.func 20) #[] #[]] w λ e w'=>e=.returned (.bool (eqF false F G))/\Below w.heap.size w w'
theorem Cx (h:Hd) (ar:Fo) (hX:WX ar) (P Q:Nat->Prop) (h2:Hd) (ar2:Fo) (sl sl2:Value) (w:World) (ha:Xk w P ar sl) (hb:Xk w Q ar2 sl2) :
  Calls Tryz.prog 20 #[exv h sl,exv h2 sl2] w λ e w'=>e=.returned (.bool (eqF false (Xb h ar) (Xb h2 ar2)))/\Below w.heap.size w w':=by
 have HX:=Xj hX
 obtain⟨k1,o1,v1,l1,n1⟩:=h
 obtain⟨k2,o2,v2,l2,n2⟩:=h2
 have HEQ:Xq (eqF false (Xb ⟨k1,o1,v1,l1,n1⟩ ar) (Xb ⟨k2,o2,v2,l2,n2⟩ ar2)=(k1==k2&&(o1==o2&&(v1==v2&&(n1==n2&&eqF false ar ar2))))):=Xj (by simp[eqF])
 obtain⟨q,hq⟩:∃ z,eqF false (Xb ⟨k1,o1,v1,l1,n1⟩ ar) (Xb ⟨k2,o2,v2,l2,n2⟩ ar2)=z:=⟨_,rfl⟩
 rw[hq] at HEQ ⊢
 have hA:=ha
 have hB:=hb
 obtain⟨a,c,rws,rfl,-⟩:=ha
 obtain⟨a2,c2,rws2,rfl,-⟩:=hb
 have hb1:=Xw w (.cells #[.int .i64 k1,.int .i64 o1,.int .i64 v1,.int .i64 l1,.string (st n1),.slice a ar.len c] 37)
 obtain⟨w1,hw1⟩:∃ W,w.alloc (.cells #[.int .i64 k1,.int .i64 o1,.int .i64 v1,.int .i64 l1,.string (st n1),.slice a ar.len c] 37)=W:=⟨_,rfl⟩
 have hr1:=heap_alloc_new w (.cells #[.int .i64 k1,.int .i64 o1,.int .i64 v1,.int .i64 l1,.string (st n1),.slice a ar.len c] 37)
 rw[hw1] at hb1 hr1
 have hb2:=Xw w1 (.cells #[.int .i64 k2,.int .i64 o2,.int .i64 v2,.int .i64 l2,.string (st n2),.slice a2 ar2.len c2] 37)
 have hr2:=heap_alloc_new w1 (.cells #[.int .i64 k2,.int .i64 o2,.int .i64 v2,.int .i64 l2,.string (st n2),.slice a2 ar2.len c2] 37)
 obtain⟨w2,hw2⟩:∃ W,w1.alloc (.cells #[.int .i64 k2,.int .i64 o2,.int .i64 v2,.int .i64 l2,.string (st n2),.slice a2 ar2.len c2] 37)=W:=⟨_,rfl⟩
 rw[hw2] at hb2 hr2
 have hs1:w1.heap.size=w.heap.size+1:=by rw[<- hw1];simp
 have hqw:=(hb2.block _ (Xv hr1)).trans hr1
 have HB:=Xj (hb1.trans (hb2.mono hb1.size))
 have HA2:=Xj (hA.keep (Q:=P) (λ b hb hlt=>⟨HB.o.block b hlt,hb⟩) HB.o.size)
 have HB2:=Xj (hB.keep (Q:=Q) (λ b hb hlt=>⟨HB.o.block b hlt,hb⟩) HB.o.size)
 rw[hs1] at hr2
 obtain⟨p0,p1,p2,p3,p4,p5⟩:=Xl hqw
 obtain⟨q0,q1,q2,q3,q4,q5⟩:=Xl hr2
 obtain⟨g,hg⟩:∃ z,w.heap.size=z:=⟨_,rfl⟩
 rw[hg] at p0 p1 p2 p3 p4 p5 q0 q1 q2 q3 q4 q5
 clear hX hA hB hb1 hb2 hr1 hr2 hqw hq
 go_enter Tryz.func20,Tryz.ntmps20
 go_upto_region 1 with fail
 (try rw[hw1])
 (try rw[hw2])
 (try rw[hg])
 clear hw1 hw2 hg hs1
 by_cases ek:k1=k2
 rotate_left
 ·have d1:(k1==k2)=false:=beq_eq_false_iff_ne.2 ek
  have HF:Xq (q=false):=Xj (by rw[HEQ.o,d1];simp)
  clear ek
  go_wp2_with fail
  refine bodyPost_ret (v:=.bool false) (by simp[results,Tryz.results20,go_sem]) rfl ?_
  exact⟨by rw[HF.o],HB.o⟩
 subst ek
 by_cases eo:o1=o2
 rotate_left
 ·have d1:(o1==o2)=false:=beq_eq_false_iff_ne.2 eo
  have HF:Xq (q=false):=Xj (by rw[HEQ.o,d1];simp)
  clear eo
  go_wp2_with fail
  refine bodyPost_ret (v:=.bool false) (by simp[results,Tryz.results20,go_sem]) rfl ?_
  exact⟨by rw[HF.o],HB.o⟩
 subst eo
 by_cases ev:v1=v2
 rotate_left
 ·have d1:(v1==v2)=false:=beq_eq_false_iff_ne.2 ev
  have HF:Xq (q=false):=Xj (by rw[HEQ.o,d1];simp)
  clear ev
  go_wp2_with fail
  refine bodyPost_ret (v:=.bool false) (by simp[results,Tryz.results20,go_sem]) rfl ?_
  exact⟨by rw[HF.o],HB.o⟩
 subst ev
 by_cases en:n1=n2
 rotate_left
 ·have d1:(n1==n2)=false:=beq_eq_false_iff_ne.2 en
  have HF:Xq (q=false):=Xj (by rw[HEQ.o,d1];simp)
  clear en
  go_wp2_with fail
  refine bodyPost_ret (v:=.bool false) (by simp[results,Tryz.results20,go_sem]) rfl ?_
  exact⟨by rw[HF.o],HB.o⟩
 subst en
 have HF:Xq (q=eqF false ar ar2):=Xj (by rw[HEQ.o];simp)
 have HC:=Xj (HX.o P Q ar2 (.slice a ar.len c) (.slice a2 ar2.len c2) w2 HA2.o HB2.o)
 clear HX
 go_wp2_with fail
 refine HC.o.mono ?_
 rintro e w3 ⟨rfl,hb3⟩
 rw[<- HF.o]
 have HB3:=Xj (HB.o.trans (hb3.mono HB.o.size))
 clear hb3 p0 p1 p2 p3 p4 p5 q0 q1 q2 q3 q4 q5
 go_wp2_with fail
 refine bodyPost_ret (v:=.bool q) (by simp[results,Tryz.results20,go_sem]) rfl ?_
 exact⟨rfl,HB3.o⟩
theorem Lb (F G:Fo) (i:Nat) (x y:Hd×Fo) (hx:F.get i=some x) (hy:G.get i=some y) (k:eqF false F G=eqF false (F.drop i) (G.drop i)) :
  eqF false F G=(eqF false (Xb x.1 x.2) (Xb y.1 y.2)&&eqF false (F.drop (i+1)) (G.drop (i+1))):=by
 rw[k,Fo.drop_get hx,Fo.drop_get hy]
 simp[eqF]
theorem Xk.elemQ {w:World} {P:Nat->Prop} {ar:Fo} {a:Option Addr} {n c:Nat} (h:Xk w P ar (.slice a n c)) {j:Nat} {x:Hd×Fo} (hj:ar.get j=some x) :
  ∃ b off asl csl,a=some ⟨b,off,none⟩/\b<w.heap.size/\P b/\Xk w P x.2 (.slice asl x.2.len csl)/\∀ i u,(hdc x.1 (.slice asl x.2.len csl))[i]?=some u->w.cell? ⟨b,off+j*6+i,none⟩=some u:=by
 have e:n=ar.len:=by obtain⟨_,_,_,e,_⟩:=h;injection e
 subst e
 exact h.elemP hj
theorem Eb (F:Fo) (hE:∀ j x,F.get j=some x->WX x.2):WX F:=by
 intro P Q G va vb w hF hG
 have HF:=Xj hF
 have HG:=Xj hG
 have hz:∀ X:Fo,X.drop 0=X:=λ X=>by cases X<;>rfl
 obtain⟨a,ca,_,rfl,hFm1,hFm0,-⟩:=hF
 obtain⟨b,cb,_,rfl,hGm1,hGm0,-⟩:=hG
 have hFm:=Nat.le_trans hFm1 hFm0
 have hGm:=Nat.le_trans hGm1 hGm0
 have HE:=Xj hE
 obtain⟨n,hn⟩:∃ n,F.len=n:=⟨_,rfl⟩
 obtain⟨m,hm⟩:∃ n,G.len=n:=⟨_,rfl⟩
 have HN:=Xj (And.intro hn hm)
 have hFm2:n<=9223372036854775807:=by rw[<- hn];unfold maxLen at hFm;omega
 have hGm2:m<=9223372036854775807:=by rw[<- hm];unfold maxLen at hGm;omega
 rw[hn] at HF ⊢
 rw[hm] at HG ⊢
 clear hE hn hm hFm hGm hFm1 hFm0 hGm1 hGm0
 by_cases hnm:n=m
 rotate_left
 ·have d3:((n:Int) != (m:Int))=true:=by rw[bne_iff_ne];omega
  have HX:Xq (eqF false F G=false):=Xj (Tz (by rw[HN.o.1,HN.o.2];exact hnm))
  clear hnm
  go_enter Tryz.func58,Tryz.ntmps58
  go_wp2_with fail
  refine bodyPost_ret (v:=.bool false) (by simp[results,Tryz.results58,go_sem]) rfl ?_
  exact⟨by rw[HX.o],Below.refl _ _⟩
 subst hnm
 have d3:((n:Int) != (n:Int))=false:=by simp
 go_enter Tryz.func58,Tryz.ntmps58
 go_upto_block 0 with fail
 go_wp2_with fail
 go_loopw [17] (λ v17 wr=>∃ i:Nat,i<=n/\v17=.int .i64 i/\Xq (Below w.heap.size w wr/\eqF false F G=eqF false (F.drop i) (G.drop i))) (λ v17 _=>n-(intOf v17).toNat)
 case atStart=>exact⟨0,Nat.zero_le _,rfl,Xj ⟨Below.refl _ _,by rw[hz,hz]⟩⟩
 rename World=>wa
 obtain⟨i,hi,rfl,HL⟩:=hrel
 by_cases hlt:i<n
 ·obtain⟨x,hx⟩:=Fo.get_lt (F:=F) (i:=i) (by rw[HN.o.1];exact hlt)
  obtain⟨y,hy⟩:=Fo.get_lt (F:=G) (i:=i) (by rw[HN.o.2];exact hlt)
  obtain⟨b1,of1,as1,cs1,rfl,hdv,-,hA1,hk⟩:=((HF.o.keep (Q:=P) (λ b hb hlt=>⟨HL.o.1.block b hlt,hb⟩) HL.o.1.size)).elemQ hx
  obtain⟨b2,of2,as2,cs2,rfl,hdw,-,hA2,hj⟩:=((HG.o.keep (Q:=Q) (λ b hb hlt=>⟨HL.o.1.block b hlt,hb⟩) HL.o.1.size)).elemQ hy
  have p0:wa.cell? ⟨b1,of1+i*6,none⟩=some (.int .i64 x.1.k):=hk 0 _ rfl
  have p1:wa.cell? ⟨b1,of1+i*6+1,none⟩=some (.int .i64 x.1.op):=hk 1 _ rfl
  have p2:wa.cell? ⟨b1,of1+i*6+2,none⟩=some (.int .i64 x.1.v):=hk 2 _ rfl
  have p3:wa.cell? ⟨b1,of1+i*6+3,none⟩=some (.int .i64 x.1.ln):=hk 3 _ rfl
  have p4:wa.cell? ⟨b1,of1+i*6+4,none⟩=some (.string (st x.1.nm)):=hk 4 _ rfl
  have p5:wa.cell? ⟨b1,of1+i*6+5,none⟩=some (.slice as1 x.2.len cs1):=hk 5 _ rfl
  have q0:wa.cell? ⟨b2,of2+i*6,none⟩=some (.int .i64 y.1.k):=hj 0 _ rfl
  have q1:wa.cell? ⟨b2,of2+i*6+1,none⟩=some (.int .i64 y.1.op):=hj 1 _ rfl
  have q2:wa.cell? ⟨b2,of2+i*6+2,none⟩=some (.int .i64 y.1.v):=hj 2 _ rfl
  have q3:wa.cell? ⟨b2,of2+i*6+3,none⟩=some (.int .i64 y.1.ln):=hj 3 _ rfl
  have q4:wa.cell? ⟨b2,of2+i*6+4,none⟩=some (.string (st y.1.nm)):=hj 4 _ rfl
  have q5:wa.cell? ⟨b2,of2+i*6+5,none⟩=some (.slice as2 y.2.len cs2):=hj 5 _ rfl
  have hal:=((Below.refl wa.heap.size wa).alloc (Nat.le_refl _) (.cells #[.int .i64 x.1.k,.int .i64 x.1.op,.int .i64 x.1.v,.int .i64 x.1.ln,.string (st x.1.nm),.slice as1 x.2.len cs1] 37)).alloc (by simp) (.cells #[.int .i64 y.1.k,.int .i64 y.1.op,.int .i64 y.1.v,.int .i64 y.1.ln,.string (st y.1.nm),.slice as2 y.2.len cs2] 37)
  have HC:=Xj (Cx x.1 x.2 (HE.o i x hx) P Q y.1 y.2 (.slice as1 x.2.len cs1) (.slice as2 y.2.len cs2) _ (hA1.keep (Q:=P) (λ b hb hlt=>⟨hal.block b hlt,hb⟩) hal.size) (hA2.keep (Q:=Q) (λ b hb hlt=>⟨hal.block b hlt,hb⟩) hal.size))
  have HBA:=Xj (HL.o.1.trans (hal.mono HL.o.1.size))
  have HQ:=Xj (Lb F G i x y hx hy HL.o.2)
  clear hx hy hA1 hA2 hk hj hal
  go_wp2_with fail
  refine HC.o.mono ?_
  rintro e w2 ⟨rfl,hb2⟩
  have HB2:=Xj (HBA.o.trans (hb2.mono HBA.o.size))
  clear hb2 p0 p1 p2 p3 p4 p5 q0 q1 q2 q3 q4 q5
  cases hq:eqF false (Xb x.1 x.2) (Xb y.1 y.2)
  ·have HX:Xq (eqF false F G=false):=Xj (by rw[HQ.o,hq];rfl)
   clear hq
   go_wp2_with fail
   refine bodyPost_ret (v:=.bool false) (by simp[results,Tryz.results58,go_sem]) rfl ?_
   exact⟨by rw[HX.o],HB2.o⟩
  have HX:Xq (eqF false F G=eqF false (F.drop (i+1)) (G.drop (i+1))):=Xj (by rw[HQ.o,hq];simp)
  clear hq
  go_wp2_with fail
  go_roundw
  case rel=>exact⟨i+1,by omega,by go_num,Xj ⟨HB2.o,HX.o⟩⟩
  simp[intOf];omega
 obtain rfl:i=n:=by omega
 have HX:Xq (eqF false F G=true):=Xj (by rw[HL.o.2,show F.drop i=.nil by rw[<- HN.o.1];exact Fo.drop_len F,show G.drop i=.nil by rw[<- HN.o.2];exact Fo.drop_len G];rfl)
 go_wp2_with fail
 refine bodyPost_ret (v:=.bool true) (by simp[results,Tryz.results58,go_sem]) rfl ?_
 exact⟨by rw[HX.o],HL.o.1⟩
theorem Rm (F:Fo):∀ j x,F.get j=some x->WX x.2:=by
 induction F with
 | nil=>intro j x h;cases h
 | cons h ar r ih1 ih2 =>
  intro j x hj
  cases j with
  | zero =>
   have e:(h,ar)=x:=by injection hj
   subst e
   exact Eb ar ih1
  | succ j=>exact ih2 j x hj
theorem Rc (F:Fo):WX F:=Eb F (Rm F)
def WY (S:Sf):Prop:=∀ (P Q:Nat->Prop) (T:Sf) (va vb:Value) (w:World),Xf w P S va->Xf w Q T vb ->
 Calls Tryz.prog 114 #[va,vb,.func (.func 115) #[] #[]] w λ e w'=>e=.returned (.bool (eqS false S T))/\Below w.heap.size w w'
abbrev Hp (x:S1) (a:Option Addr) (c:Nat) (at_:Option Addr) (ct:Nat) (ae:Option Addr) (ce:Nat):Array Value := #[.int .i64 x.k,.int .i64 x.ln,.string (st x.nm),.slice a x.xs.len c,.slice at_ x.th.len ct,.slice ae x.el.len ce]
def eqX (x y:S1):Bool:=x.k==y.k&&(x.nm==y.nm&&(eqF false x.xs y.xs&&(eqS false x.th y.th&&eqS false x.el y.el)))
theorem Tr (x y:S1) (hT:WY x.th) (hE:WY x.el) (P Q:Nat->Prop) (a:Option Addr) (c:Nat) (at_:Option Addr) (ct:Nat) (ae:Option Addr) (ce:Nat) (b:Option Addr) (d:Nat) (bt:Option Addr) (dt:Nat) (be:Option Addr) (de:Nat) (w:World)
  (h1:Xk w P x.xs (.slice a x.xs.len c)) (h2:Xf w P x.th (.slice at_ x.th.len ct)) (h3:Xf w P x.el (.slice ae x.el.len ce))
  (k1:Xk w Q y.xs (.slice b y.xs.len d)) (k2:Xf w Q y.th (.slice bt y.th.len dt)) (k3:Xf w Q y.el (.slice be y.el.len de)) :
  Calls Tryz.prog 115 #[.agg (Hp x a c at_ ct ae ce),.agg (Hp y b d bt dt be de)] w λ e w'=>e=.returned (.bool (eqX x y))/\Below w.heap.size w w':=by
 obtain⟨q,hq⟩:∃ z,eqX x y=z:=⟨_,rfl⟩
 have HEQ:Xq (q=(x.k==y.k&&(x.nm==y.nm&&(eqF false x.xs y.xs&&(eqS false x.th y.th&&eqS false x.el y.el))))):=Xj (by rw[<- hq];rfl)
 rw[hq]
 have HT:=Xj hT
 have HE:=Xj hE
 have hb1:=Xw w (.cells (Hp x a c at_ ct ae ce) 110)
 have hr1:=heap_alloc_new w (.cells (Hp x a c at_ ct ae ce) 110)
 obtain⟨w1,hw1⟩:∃ W,w.alloc (.cells (Hp x a c at_ ct ae ce) 110)=W:=⟨_,rfl⟩
 rw[hw1] at hb1 hr1
 have hb2:=Xw w1 (.cells (Hp y b d bt dt be de) 110)
 have hr2:=heap_alloc_new w1 (.cells (Hp y b d bt dt be de) 110)
 obtain⟨w2,hw2⟩:∃ W,w1.alloc (.cells (Hp y b d bt dt be de) 110)=W:=⟨_,rfl⟩
 rw[hw2] at hb2 hr2
 have hs1:w1.heap.size=w.heap.size+1:=by rw[<- hw1];simp
 have hqw:=(hb2.block _ (Xv hr1)).trans hr1
 have HB:=Xj (hb1.trans (hb2.mono hb1.size))
 have HA1:=Xj (h1.keep (Q:=P) (λ b hb hlt=>⟨HB.o.block b hlt,hb⟩) HB.o.size)
 have HA2:=Xj (h2.keep (Q:=P) (λ b hb hlt=>⟨HB.o.block b hlt,hb⟩) HB.o.size)
 have HA3:=Xj (h3.keep (Q:=P) (λ b hb hlt=>⟨HB.o.block b hlt,hb⟩) HB.o.size)
 have HC1:=Xj (k1.keep (Q:=Q) (λ b hb hlt=>⟨HB.o.block b hlt,hb⟩) HB.o.size)
 have HC2:=Xj (k2.keep (Q:=Q) (λ b hb hlt=>⟨HB.o.block b hlt,hb⟩) HB.o.size)
 have HC3:=Xj (k3.keep (Q:=Q) (λ b hb hlt=>⟨HB.o.block b hlt,hb⟩) HB.o.size)
 rw[hs1] at hr2
 obtain⟨g,hg⟩:∃ z,w.heap.size=z:=⟨_,rfl⟩
 rw[hg] at hqw hr2
 have HR1:=Xj hqw
 have HR2:=Xj hr2
 obtain⟨p0,p1,p2,p3,p4,p5⟩:=Xl hqw
 obtain⟨q0,q1,q2,q3,q4,q5⟩:=Xl hr2
 obtain⟨xk,xln,xnm,xxs,xth,xel⟩:=x
 obtain⟨yk,yln,ynm,yxs,yth,yel⟩:=y
 dsimp only at p0 p1 p2 p3 p4 p5 q0 q1 q2 q3 q4 q5 HEQ HA1 HA2 HA3 HC1 HC2 HC3 HT HE HR1 HR2 hw1 hw2
 clear h1 h2 h3 k1 k2 k3 hT hE hb1 hb2 hr1 hr2 hqw hq
 go_enter Tryz.func115,Tryz.ntmps115
 go_upto_region 1 with fail
 (try rw[hw1])
 (try rw[hw2])
 (try rw[hg])
 clear hw1 hw2 hg hs1
 by_cases ek:xk=yk
 rotate_left
 ·have d1:(xk==yk)=false:=beq_eq_false_iff_ne.2 ek
  have HF:Xq (q=false):=Xj (by rw[HEQ.o,d1];simp)
  clear ek
  go_wp2_with fail
  refine bodyPost_ret (v:=.bool false) (by simp[results,Tryz.results115,go_sem]) rfl ?_
  exact⟨by rw[HF.o],HB.o⟩
 subst ek
 by_cases en:xnm=ynm
 rotate_left
 ·have d1:(xnm==ynm)=false:=beq_eq_false_iff_ne.2 en
  have HF:Xq (q=false):=Xj (by rw[HEQ.o,d1];simp)
  clear en
  go_wp2_with fail
  refine bodyPost_ret (v:=.bool false) (by simp[results,Tryz.results115,go_sem]) rfl ?_
  exact⟨by rw[HF.o],HB.o⟩
 subst en
 have HQ:Xq (q=(eqF false xxs yxs&&(eqS false xth yth&&eqS false xel yel))):=Xj (by rw[HEQ.o];simp)
 have HK1:=Xj (Rc xxs P Q yxs _ _ w2 HA1.o HC1.o)
 obtain⟨v1,hv1⟩:∃ z,eqF false xxs yxs=z:=⟨_,rfl⟩
 rw[hv1] at HK1 HQ
 clear HEQ hv1
 go_wp2_with fail
 refine HK1.o.mono ?_
 rintro e w3 ⟨rfl,hb3⟩
 have HB3:=Xj (HB.o.trans (hb3.mono HB.o.size))
 have HP2:=Xj (HA2.o.keep (Q:=P) (λ b hb hlt=>⟨hb3.block b hlt,hb⟩) hb3.size)
 have HP3:=Xj (HA3.o.keep (Q:=P) (λ b hb hlt=>⟨hb3.block b hlt,hb⟩) hb3.size)
 have HQ2:=Xj (HC2.o.keep (Q:=Q) (λ b hb hlt=>⟨hb3.block b hlt,hb⟩) hb3.size)
 have HQ3:=Xj (HC3.o.keep (Q:=Q) (λ b hb hlt=>⟨hb3.block b hlt,hb⟩) hb3.size)
 have HS1:=Xj ((hb3.block _ (Xv HR1.o)).trans HR1.o)
 have HS2:=Xj ((hb3.block _ (Xv HR2.o)).trans HR2.o)
 clear hb3 p0 p1 p2 p3 p4 p5 q0 q1 q2 q3 q4 q5 HK1
 obtain⟨p0,p1,p2,p3,p4,p5⟩:=Xl HS1.o
 obtain⟨q0,q1,q2,q3,q4,q5⟩:=Xl HS2.o
 cases v1
 ·have HF:Xq (q=false):=Xj (by rw[HQ.o];rfl)
  go_wp2_with fail
  refine bodyPost_ret (v:=.bool false) (by simp[results,Tryz.results115,go_sem]) rfl ?_
  exact⟨by rw[HF.o],HB3.o⟩
 have HK2:=Xj (HT.o P Q yth _ _ w3 HP2.o HQ2.o)
 obtain⟨v2,hv2⟩:∃ z,eqS false xth yth=z:=⟨_,rfl⟩
 rw[hv2] at HK2 HQ
 clear hv2
 go_wp2_with fail
 refine HK2.o.mono ?_
 rintro e w4 ⟨rfl,hb4⟩
 have HB4:=Xj (HB3.o.trans (hb4.mono HB3.o.size))
 have HPP3:=Xj (HP3.o.keep (Q:=P) (λ b hb hlt=>⟨hb4.block b hlt,hb⟩) hb4.size)
 have HQQ3:=Xj (HQ3.o.keep (Q:=Q) (λ b hb hlt=>⟨hb4.block b hlt,hb⟩) hb4.size)
 have HU1:=Xj ((hb4.block _ (Xv HS1.o)).trans HS1.o)
 have HU2:=Xj ((hb4.block _ (Xv HS2.o)).trans HS2.o)
 clear hb4 p0 p1 p2 p3 p4 p5 q0 q1 q2 q3 q4 q5 HK2
 obtain⟨p0,p1,p2,p3,p4,p5⟩:=Xl HU1.o
 obtain⟨q0,q1,q2,q3,q4,q5⟩:=Xl HU2.o
 cases v2
 ·have HF:Xq (q=false):=Xj (by rw[HQ.o];rfl)
  go_wp2_with fail
  refine bodyPost_ret (v:=.bool false) (by simp[results,Tryz.results115,go_sem]) rfl ?_
  exact⟨by rw[HF.o],HB4.o⟩
 have HK3:=Xj (HE.o P Q yel _ _ w4 HPP3.o HQQ3.o)
 obtain⟨v3,hv3⟩:∃ z,eqS false xel yel=z:=⟨_,rfl⟩
 rw[hv3] at HK3 HQ
 clear hv3
 go_wp2_with fail
 refine HK3.o.mono ?_
 rintro e w5 ⟨rfl,hb5⟩
 have HB5:=Xj (HB4.o.trans (hb5.mono HB4.o.size))
 have HF:Xq (q=v3):=Xj (by rw[HQ.o];rfl)
 clear hb5 p0 p1 p2 p3 p4 p5 q0 q1 q2 q3 q4 q5 HK3
 go_wp2_with fail
 refine bodyPost_ret (v:=.bool v3) (by simp[results,Tryz.results115,go_sem]) rfl ?_
 exact⟨by rw[HF.o],HB5.o⟩
def Sf.drp:Sf->Nat->Sf
 | S,0=>S
 | .nil,_+1=>.nil
 | .cons _ _ _ _ _ _ r,i+1=>r.drp i
theorem Sf.drp_zero (S:Sf):S.drp 0=S:=by cases S<;>rfl
theorem Sf.drp_get {S:Sf} {i:Nat} {x:S1} (h:S.get i=some x):S.drp i=.cons x.k x.ln x.nm x.xs x.th x.el (S.drp (i+1)):=by
 induction S generalizing i with
 | nil=>cases h
 | cons k ln nm xs th el r _ _ ih =>
  cases i with
  | zero=>injection h with h;subst h;show Sf.cons _ _ _ _ _ _ r=Sf.cons _ _ _ _ _ _ (r.drp 0);rw[Sf.drp_zero]
  | succ i=>exact ih h
theorem Sf.drp_len (S:Sf):S.drp S.len=.nil:=by
 induction S with
 | nil=>rfl
 | cons k ln nm xs th el r _ _ ih=>exact ih
theorem Lw (S T:Sf) (i:Nat) (x y:S1) (hx:S.get i=some x) (hy:T.get i=some y) (k:eqS false S T=eqS false (S.drp i) (T.drp i)) :
  eqS false S T=(eqX x y&&eqS false (S.drp (i+1)) (T.drp (i+1))):=by
 rw[k,Sf.drp_get hx,Sf.drp_get hy]
 simp[eqS,eqX]
theorem Xf.elemQ {w:World} {P:Nat->Prop} {S:Sf} {a:Option Addr} {n c:Nat} (h:Xf w P S (.slice a n c)):n=S.len/\n<=c/\c<=maxLen:=by
 obtain⟨_,_,_,e,h1,h2,_⟩:=h;injection e with e1 e2 e3;subst e2 e3;exact⟨rfl,h1,h2⟩
theorem Eu (S:Sf) (hS:∀ i x,S.get i=some x->WY x.th/\WY x.el):WY S:=by
 intro P Q T va vb w hF hG
 have HS:=Xj hS
 have hf:=hF
 have hg:=hG
 obtain⟨a,ca,_,rfl,-⟩:=hf
 obtain⟨b,cb,_,rfl,-⟩:=hg
 obtain⟨n,hn⟩:∃ n,S.len=n:=⟨_,rfl⟩
 obtain⟨m,hm⟩:∃ n,T.len=n:=⟨_,rfl⟩
 have HN:=Xj (And.intro hn hm)
 rw[hn] at hF ⊢
 rw[hm] at hG ⊢
 have hc1:=hF.elemQ
 have hc2:=hG.elemQ
 have hcc:n<=9223372036854775807/\m<=9223372036854775807:=by unfold maxLen at hc1 hc2;omega
 have HF:=Xj hF
 have HG:=Xj hG
 clear hF hG hS hn hm hc1 hc2
 by_cases hnm:n=m
 rotate_left
 ·have d3:((n:Int) != (m:Int))=true:=by rw[bne_iff_ne];omega
  have HX:Xq (eqS false S T=false):=Xj (Tj (by rw[HN.o.1,HN.o.2];exact hnm))
  clear hnm
  go_enter Tryz.func114,Tryz.ntmps114
  go_wp2_with fail
  refine bodyPost_ret (v:=.bool false) (by simp[results,Tryz.results114,go_sem]) rfl ?_
  exact⟨by rw[HX.o],Below.refl _ _⟩
 subst hnm
 have d3:((n:Int) != (n:Int))=false:=by simp
 go_enter Tryz.func114,Tryz.ntmps114
 go_upto_block 0 with fail
 go_wp2_with fail
 go_loopw [17] (λ v17 wr=>∃ i:Nat,i<=n/\v17=.int .i64 i/\Xq (Below w.heap.size w wr/\eqS false S T=eqS false (S.drp i) (T.drp i))) (λ v17 _=>n-(intOf v17).toNat)
 case atStart=>exact⟨0,Nat.zero_le _,rfl,Xj ⟨Below.refl _ _,by rw[Sf.drp_zero,Sf.drp_zero]⟩⟩
 rename World=>wa
 obtain⟨i,hi,rfl,HL⟩:=hrel
 by_cases hlt:i<n
 ·obtain⟨x,hx⟩:=Sf.get_lt (S:=S) (i:=i) (by rw[HN.o.1];exact hlt)
  obtain⟨y,hy⟩:=Sf.get_lt (S:=T) (i:=i) (by rw[HN.o.2];exact hlt)
  have hF:=(HF.o.keep (Q:=P) (λ b hb hlt=>⟨HL.o.1.block b hlt,hb⟩) HL.o.1.size)
  have hG:=(HG.o.keep (Q:=Q) (λ b hb hlt=>⟨HL.o.1.block b hlt,hb⟩) HL.o.1.size)
  rw[<- HN.o.1] at hF
  rw[<- HN.o.2] at hG
  obtain⟨b1,of1,ax,cx,at_,ct,ae,ce,rfl,hdv,hX1,hX2,hX3,p0,p1,p2,p3,p4,p5⟩:=hF.elemP hx
  obtain⟨b2,of2,bx,dx,bt,dt,be,de,rfl,hdw,hY1,hY2,hY3,q0,q1,q2,q3,q4,q5⟩:=hG.elemP hy
  have hal:=((Below.refl wa.heap.size wa).alloc (Nat.le_refl _) (.cells (Hp x ax cx at_ ct ae ce) 110)).alloc (by simp) (.cells (Hp y bx dx bt dt be de) 110)
  have HC:=Xj (Tr x y (HS.o i x hx).1 (HS.o i x hx).2 P Q ax cx at_ ct ae ce bx dx bt dt be de _ (hX1.o.keep (Q:=P) (λ b hb hlt=>⟨hal.block b hlt,hb⟩) hal.size) (hX2.o.keep (Q:=P) (λ b hb hlt=>⟨hal.block b hlt,hb⟩) hal.size) (hX3.o.keep (Q:=P) (λ b hb hlt=>⟨hal.block b hlt,hb⟩) hal.size)
   (hY1.o.keep (Q:=Q) (λ b hb hlt=>⟨hal.block b hlt,hb⟩) hal.size) (hY2.o.keep (Q:=Q) (λ b hb hlt=>⟨hal.block b hlt,hb⟩) hal.size) (hY3.o.keep (Q:=Q) (λ b hb hlt=>⟨hal.block b hlt,hb⟩) hal.size))
  have HBA:=Xj (HL.o.1.trans (hal.mono HL.o.1.size))
  have HQ:=Xj (Lw S T i x y hx hy HL.o.2)
  obtain⟨v,hv⟩:∃ z,eqX x y=z:=⟨_,rfl⟩
  rw[hv] at HC HQ
  clear hx hy hF hG hX1 hX2 hX3 hY1 hY2 hY3 hal hv
  go_wp2_with fail
  refine HC.o.mono ?_
  rintro e w2 ⟨rfl,hb2⟩
  have HB2:=Xj (HBA.o.trans (hb2.mono HBA.o.size))
  clear hb2 p0 p1 p2 p3 p4 p5 q0 q1 q2 q3 q4 q5
  cases v
  ·have HX:Xq (eqS false S T=false):=Xj (by rw[HQ.o];rfl)
   go_wp2_with fail
   refine bodyPost_ret (v:=.bool false) (by simp[results,Tryz.results114,go_sem]) rfl ?_
   exact⟨by rw[HX.o],HB2.o⟩
  have HX:Xq (eqS false S T=eqS false (S.drp (i+1)) (T.drp (i+1))):=Xj (by rw[HQ.o];simp)
  go_wp2_with fail
  go_roundw
  case rel=>exact⟨i+1,by omega,by go_num,Xj ⟨HB2.o,HX.o⟩⟩
  simp[intOf];omega
 obtain rfl:i=n:=by omega
 have HX:Xq (eqS false S T=true):=Xj (by rw[HL.o.2,show S.drp i=.nil by rw[<- HN.o.1];exact Sf.drp_len S,show T.drp i=.nil by rw[<- HN.o.2];exact Sf.drp_len T];rfl)
 go_wp2_with fail
 refine bodyPost_ret (v:=.bool true) (by simp[results,Tryz.results114,go_sem]) rfl ?_
 exact⟨by rw[HX.o],HL.o.1⟩
theorem Rg (S:Sf):WY S/\∀ i x,S.get i=some x->WY x.th/\WY x.el:=by
 induction S with
 | nil=>exact⟨Eu .nil (λ i x h=>nomatch h),λ i x h=>nomatch h⟩
 | cons k ln nm xs th el r ih1 ih2 ih3 =>
  have key:∀ i x,Sf.get (.cons k ln nm xs th el r) i=some x->WY x.th/\WY x.el:=λ i x h=>by
   cases i with
   | zero =>
    injection h with h
    subst h
    exact⟨ih1.1,ih2.1⟩
   | succ i=>exact ih3.2 i x h
  exact⟨Eu _ key,key⟩
theorem xxk {ps qs:List Bt}:(ps.map st=qs.map st)↔ps=qs:=by
 constructor
 ·intro h
  induction ps generalizing qs with
  | nil=>cases qs with
   | nil=>rfl
   | cons=>cases h
  | cons p ps ih=>cases qs with
   | nil=>cases h
   | cons q qs =>
    rw[List.map_cons,List.map_cons] at h
    injection h with h1 h2
    rw[ih h2]
    have:p=q:=by
     have:=congrArg (λ b:ByteArray=>b.data.toList) h1
     simpa using this
    rw[this]
 rintro rfl;rfl
theorem Cy (ps qs:List Bt) (P Q:Nat->Prop) (va vb:Value) (w:World) (h:Vw w P ps va) (k:Vw w Q qs vb) :
  Calls Tryz.prog 113 #[va,vb] w λ e w'=>e=.returned (.bool (ps==qs))/\Below w.heap.size w w':=by
 obtain⟨a,c,rfl,h1,h2,h3⟩:=h
 obtain⟨b,d,rfl,k1,k2,k3⟩:=k
 by_cases hl:ps.length=qs.length
 ·by_cases h0:ps=[]
  ·subst h0
   have hq:qs=[]:=List.length_eq_zero_iff.1 hl.symm
   subst hq
   exact(Tryz.slices_Equal_string_empty a b c 0 d w (by omega)).mono λ e w' ⟨he,hw⟩=>⟨he,hw▸Below.refl _ _⟩
  obtain⟨b1,o1,rfl,_,_,hc1⟩:=h3 (λ e=>h0 (by simpa using e))
  obtain⟨b2,o2,rfl,_,_,hc2⟩:=k3 (λ e=>h0 (by have:qs=[]:=(by simpa using e);subst this;exact List.length_eq_zero_iff.1 hl))
  unfold maxLen at h2 k2
  have:=Tryz.slices_Equal_string b1 o1 ps.length c b2 o2 qs.length d (ps.map st) (qs.map st) w (by simp) (by simp) (by omega) (by omega) (λ j hj=>by
   refine hc1 j _ ?_
   rw[List.length_map] at hj
   simp[List.getD,hj]) (λ j hj=>by
   refine hc2 j _ ?_
   rw[List.length_map] at hj
   simp[List.getD,hj])
  refine this.mono ?_
  rintro e w' ⟨rfl,q,rfl⟩
  refine⟨?_,⟨rfl,rfl,rfl,Nat.le_refl _,λ _ _=>rfl⟩⟩
  rw[List.take_of_length_le (by simp),List.take_of_length_le (by simp)]
  congr 2
  rw[Bool.eq_iff_iff,decide_eq_true_iff,beq_iff_eq]
  exact xxk
 refine(Tryz.slices_Equal_string_lens a b _ c _ d w hl).mono ?_
 rintro e w' ⟨rfl,rfl⟩
 refine⟨?_,Below.refl _ _⟩
 congr 2
 symm
 rw[beq_eq_false_iff_ne]
 rintro rfl
 exact hl rfl
abbrev fnc (f:Fu) (a:Option Addr) (c:Nat) (b:Option Addr) (d:Nat):Array Value := #[.string (st f.nm),.int .i64 f.ln,.slice a f.ps.length c,.slice b f.S.len d]
theorem Ts (f h:Fu) (P Q:Nat->Prop) (a:Option Addr) (c:Nat) (b:Option Addr) (d:Nat) (a2:Option Addr) (c2:Nat) (b2:Option Addr) (d2:Nat) (w:World)
  (h1:Vw w P f.ps (.slice a f.ps.length c)) (h2:Xf w P f.S (.slice b f.S.len d)) (k1:Vw w Q h.ps (.slice a2 h.ps.length c2)) (k2:Xf w Q h.S (.slice b2 h.S.len d2)) :
  Calls Tryz.prog 67 #[.agg (fnc f a c b d),.agg (fnc h a2 c2 b2 d2)] w λ e w'=>e=.returned (.bool (Ef false f h))/\Below w.heap.size w w':=by
 obtain⟨q,hq⟩:∃ z,Ef false f h=z:=⟨_,rfl⟩
 have HEQ:Xq (q=(f.nm==h.nm&&(f.ps==h.ps&&eqS false f.S h.S))):=Xj (by rw[<- hq];simp[Ef])
 rw[hq]
 have hb1:=Xw w (.cells (fnc f a c b d) 63)
 have hr1:=heap_alloc_new w (.cells (fnc f a c b d) 63)
 obtain⟨w1,hw1⟩:∃ W,w.alloc (.cells (fnc f a c b d) 63)=W:=⟨_,rfl⟩
 rw[hw1] at hb1 hr1
 have hb2:=Xw w1 (.cells (fnc h a2 c2 b2 d2) 63)
 have hr2:=heap_alloc_new w1 (.cells (fnc h a2 c2 b2 d2) 63)
 obtain⟨w2,hw2⟩:∃ W,w1.alloc (.cells (fnc h a2 c2 b2 d2) 63)=W:=⟨_,rfl⟩
 rw[hw2] at hb2 hr2
 have hs1:w1.heap.size=w.heap.size+1:=by rw[<- hw1];simp
 have hqw:=(hb2.block _ (Xv hr1)).trans hr1
 have HB:=Xj (hb1.trans (hb2.mono hb1.size))
 have HA1:=Xj (h1.keep (Q:=P) (λ b hb hlt=>⟨HB.o.block b hlt,hb⟩) HB.o.size)
 have HA2:=Xj (h2.keep (Q:=P) (λ b hb hlt=>⟨HB.o.block b hlt,hb⟩) HB.o.size)
 have HC1:=Xj (k1.keep (Q:=Q) (λ b hb hlt=>⟨HB.o.block b hlt,hb⟩) HB.o.size)
 have HC2:=Xj (k2.keep (Q:=Q) (λ b hb hlt=>⟨HB.o.block b hlt,hb⟩) HB.o.size)
 rw[hs1] at hr2
 obtain⟨g,hg⟩:∃ z,w.heap.size=z:=⟨_,rfl⟩
 rw[hg] at hqw hr2
 obtain⟨fn,fl,fp,fS⟩:=f
 obtain⟨hn,hl,hp,hS⟩:=h
 dsimp only at hqw hr2 HEQ HA1 HA2 HC1 HC2 hw1 hw2
 have HR1:=Xj hqw
 have HR2:=Xj hr2
 have p0:=cell_of_row _ _ 0 _ _ _ hqw
 have p2:=cell_of_row _ _ 2 _ _ _ hqw
 have p3:=cell_of_row _ _ 3 _ _ _ hqw
 have q0:=cell_of_row _ _ 0 _ _ _ hr2
 have q2:=cell_of_row _ _ 2 _ _ _ hr2
 have q3:=cell_of_row _ _ 3 _ _ _ hr2
 clear h1 h2 k1 k2 hb1 hb2 hr1 hr2 hqw hq
 go_enter Tryz.func67,Tryz.ntmps67
 go_upto_region 1 with fail
 (try rw[hw1])
 (try rw[hw2])
 (try rw[hg])
 clear hw1 hw2 hg hs1
 by_cases en:fn=hn
 rotate_left
 ·have d1:(fn==hn)=false:=beq_eq_false_iff_ne.2 en
  have HF:Xq (q=false):=Xj (by rw[HEQ.o,d1];simp)
  clear en
  go_wp2_with fail
  refine bodyPost_ret (v:=.bool false) (by simp[results,Tryz.results67,go_sem]) rfl ?_
  exact⟨by rw[HF.o],HB.o⟩
 subst en
 have HQ:Xq (q=(fp==hp&&eqS false fS hS)):=Xj (by rw[HEQ.o];simp)
 have HK1:=Xj (Cy fp hp P Q _ _ w2 HA1.o HC1.o)
 obtain⟨v1,hv1⟩:∃ z,(fp==hp)=z:=⟨_,rfl⟩
 rw[hv1] at HK1 HQ
 clear HEQ hv1
 go_wp2_with fail
 refine HK1.o.mono ?_
 rintro e w3 ⟨rfl,hb3⟩
 have HB3:=Xj (HB.o.trans (hb3.mono HB.o.size))
 have HP2:=Xj (HA2.o.keep (Q:=P) (λ b hb hlt=>⟨hb3.block b hlt,hb⟩) hb3.size)
 have HQ2:=Xj (HC2.o.keep (Q:=Q) (λ b hb hlt=>⟨hb3.block b hlt,hb⟩) hb3.size)
 have p3b:=(World.cell?_of_block (a:=⟨g,3,none⟩) (hb3.block _ (Xv HR1.o))).trans p3
 have q3b:=(World.cell?_of_block (a:=⟨g+1,3,none⟩) (hb3.block _ (Xv HR2.o))).trans q3
 clear hb3 p0 p2 p3 q0 q2 q3 HK1
 cases v1
 ·have HF:Xq (q=false):=Xj (by rw[HQ.o];rfl)
  go_wp2_with fail
  refine bodyPost_ret (v:=.bool false) (by simp[results,Tryz.results67,go_sem]) rfl ?_
  exact⟨by rw[HF.o],HB3.o⟩
 have HK2:=Xj ((Rg fS).1 P Q hS _ _ w3 HP2.o HQ2.o)
 obtain⟨v2,hv2⟩:∃ z,eqS false fS hS=z:=⟨_,rfl⟩
 rw[hv2] at HK2 HQ
 clear hv2
 go_wp2_with fail
 refine HK2.o.mono ?_
 rintro e w4 ⟨rfl,hb4⟩
 have HB4:=Xj (HB3.o.trans (hb4.mono HB3.o.size))
 have HF:Xq (q=v2):=Xj (by rw[HQ.o];rfl)
 clear hb4 p3b q3b HK2
 go_wp2_with fail
 refine bodyPost_ret (v:=.bool v2) (by simp[results,Tryz.results67,go_sem]) rfl ?_
 exact⟨by rw[HF.o],HB4.o⟩
theorem Ly {fs hs:List Fu} {i:Nat} {f h:Fu} (hf:fs[i]?=some f) (hh:hs[i]?=some h) (k:Jq false fs hs=Jq false (fs.drop i) (hs.drop i)) :
  Jq false fs hs=(Ef false f h&&Jq false (fs.drop (i+1)) (hs.drop (i+1))):=by
 obtain⟨l1,e1⟩:=List.getElem?_eq_some_iff.1 hf
 obtain⟨l2,e2⟩:=List.getElem?_eq_some_iff.1 hh
 rw[k,List.drop_eq_getElem_cons l1,List.drop_eq_getElem_cons l2,e1,e2]
 rfl
theorem Bq {fs hs:List Fu} (h:fs.length≠hs.length):Jq false fs hs=false:=by
 induction fs generalizing hs with
 | nil=>cases hs with
  | nil=>exact absurd rfl h
  | cons=>rfl
 | cons f fs ih=>cases hs with
  | nil=>rfl
  | cons g hs=>simp only[Jq];rw[ih (by simp only[List.length_cons] at h;omega)];simp
theorem Mc (P Q:Nat->Prop) (gs gs2:List (Bt×Int)) (fs hs:List Fu) (ga ga2 va vb:Value) (w:World) (hF:Jy w P gs fs ga va) (hG:Jy w Q gs2 hs ga2 vb) :
  Calls Tryz.prog 66 #[va,vb,.func (.func 67) #[] #[]] w λ e w'=>e=.returned (.bool (Jq false fs hs))/\Below w.heap.size w w':=by
 obtain⟨_,_,a,ca,e1,rfl,hc1,hc2⟩:=Wz hF
 obtain⟨_,_,b,cb,e2,rfl,hd1,hd2⟩:=Wz hG
 obtain⟨n,hn⟩:∃ n,fs.length=n:=⟨_,rfl⟩
 obtain⟨m,hm⟩:∃ n,hs.length=n:=⟨_,rfl⟩
 have HN:=Xj (And.intro hn hm)
 rw[hn] at hF hc2 ⊢
 rw[hm] at hG hd2 ⊢
 have hcc:n<=9223372036854775807/\m<=9223372036854775807:=by unfold maxLen at hc2 hd2;omega
 have HF:=Xj hF
 have HG:=Xj hG
 clear hF hG hn hm hc1 hc2 hd1 hd2 e1 e2
 by_cases hnm:n=m
 rotate_left
 ·have d3:((n:Int) != (m:Int))=true:=by rw[bne_iff_ne];omega
  have HX:Xq (Jq false fs hs=false):=Xj (Bq (by rw[HN.o.1,HN.o.2];exact hnm))
  clear hnm
  go_enter Tryz.func66,Tryz.ntmps66
  go_wp2_with fail
  refine bodyPost_ret (v:=.bool false) (by simp[results,Tryz.results66,go_sem]) rfl ?_
  exact⟨by rw[HX.o],Below.refl _ _⟩
 subst hnm
 have d3:((n:Int) != (n:Int))=false:=by simp
 go_enter Tryz.func66,Tryz.ntmps66
 go_upto_block 0 with fail
 go_wp2_with fail
 go_loopw [17] (λ v17 wr=>∃ i:Nat,i<=n/\v17=.int .i64 i/\Xq (Below w.heap.size w wr/\Jq false fs hs=Jq false (fs.drop i) (hs.drop i))) (λ v17 _=>n-(intOf v17).toNat)
 case atStart=>exact⟨0,Nat.zero_le _,rfl,Xj ⟨Below.refl _ _,by rw[List.drop_zero,List.drop_zero]⟩⟩
 rename World=>wa
 obtain⟨i,hi,rfl,HL⟩:=hrel
 by_cases hlt:i<n
 ·obtain⟨f,hx⟩:∃ f,fs[i]?=some f:=⟨_,List.getElem?_eq_getElem (by rw[HN.o.1];exact hlt)⟩
  obtain⟨h,hy⟩:∃ f,hs[i]?=some f:=⟨_,List.getElem?_eq_getElem (by rw[HN.o.2];exact hlt)⟩
  obtain⟨b1,of1,ap,cp,ab,cb1,rfl,hdv,hX1,hX2,p0,p1,p2,p3⟩:=(HF.o.keep (Q:=P) (λ b hb hlt=>⟨HL.o.1.block b hlt,hb⟩) HL.o.1.size).gf hx
  obtain⟨b2,of2,bp,dp,bb,db1,rfl,hdw,hY1,hY2,q0,q1,q2,q3⟩:=(HG.o.keep (Q:=Q) (λ b hb hlt=>⟨HL.o.1.block b hlt,hb⟩) HL.o.1.size).gf hy
  have hal:=((Below.refl wa.heap.size wa).alloc (Nat.le_refl _) (.cells (fnc f ap cp ab cb1) 63)).alloc (by simp) (.cells (fnc h bp dp bb db1) 63)
  have HC:=Xj (Ts f h P Q ap cp ab cb1 bp dp bb db1 _ (hX1.keep (Q:=P) (λ b hb hlt=>⟨hal.block b hlt,hb⟩) hal.size) (hX2.keep (Q:=P) (λ b hb hlt=>⟨hal.block b hlt,hb⟩) hal.size) (hY1.keep (Q:=Q) (λ b hb hlt=>⟨hal.block b hlt,hb⟩) hal.size) (hY2.keep (Q:=Q) (λ b hb hlt=>⟨hal.block b hlt,hb⟩) hal.size))
  have HBA:=Xj (HL.o.1.trans (hal.mono HL.o.1.size))
  have HQ:=Xj (Ly hx hy HL.o.2)
  obtain⟨v,hv⟩:∃ z,Ef false f h=z:=⟨_,rfl⟩
  rw[hv] at HC HQ
  clear hx hy hX1 hX2 hY1 hY2 hal hv
  go_wp2_with fail
  refine HC.o.mono ?_
  rintro e w2 ⟨rfl,hb2⟩
  have HB2:=Xj (HBA.o.trans (hb2.mono HBA.o.size))
  clear hb2 p0 p1 p2 p3 q0 q1 q2 q3
  cases v
  ·have HX:Xq (Jq false fs hs=false):=Xj (by rw[HQ.o];rfl)
   go_wp2_with fail
   refine bodyPost_ret (v:=.bool false) (by simp[results,Tryz.results66,go_sem]) rfl ?_
   exact⟨by rw[HX.o],HB2.o⟩
  have HX:Xq (Jq false fs hs=Jq false (fs.drop (i+1)) (hs.drop (i+1))):=Xj (by rw[HQ.o];simp)
  go_wp2_with fail
  go_roundw
  case rel=>exact⟨i+1,by omega,by go_num,Xj ⟨HB2.o,HX.o⟩⟩
  simp[intOf];omega
 obtain rfl:i=n:=by omega
 have HX:Xq (Jq false fs hs=true):=Xj (by rw[HL.o.2,List.drop_of_length_le (by rw[HN.o.1];exact Nat.le_refl _),List.drop_of_length_le (by rw[HN.o.2];exact Nat.le_refl _)];rfl)
 go_wp2_with fail
 refine bodyPost_ret (v:=.bool true) (by simp[results,Tryz.results66,go_sem]) rfl ?_
 exact⟨by rw[HX.o],HL.o.1⟩
theorem Mm (P Q:Nat->Prop) (gs gs2:List (Bt×Int)) (fs hs:List Fu) (ga ga2 va vb:Value) (w:World) (hF:Jy w P gs fs ga va) (hG:Jy w Q gs2 hs ga2 vb) :
  Calls Tryz.prog 65 #[ga,ga2] w λ e w'=>e=.returned (.bool (decide (gs=gs2)))/\Below w.heap.size w w':=by
 obtain⟨a,ca,_,_,rfl,e1,hc1,hc2⟩:=Wz hF
 obtain⟨b,cb,_,_,rfl,e2,hd1,hd2⟩:=Wz hG
 obtain⟨n,hn⟩:∃ n,gs.length=n:=⟨_,rfl⟩
 obtain⟨m,hm⟩:∃ n,gs2.length=n:=⟨_,rfl⟩
 have HN:=Xj (And.intro hn hm)
 rw[hn] at hF hc1 ⊢
 rw[hm] at hG hd1 ⊢
 have hcc:n<=9223372036854775807/\m<=9223372036854775807:=by unfold maxLen at hc1 hd1;omega
 have HF:=Xj hF
 have HG:=Xj hG
 clear hF hG hn hm hc1 hc2 hd1 hd2 e1 e2
 by_cases hnm:n=m
 rotate_left
 ·have d3:((n:Int) != (m:Int))=true:=by rw[bne_iff_ne];omega
  have HX:Xq (decide (gs=gs2)=false):=Xj (decide_eq_false (by rintro rfl;exact hnm (HN.o.1.symm.trans HN.o.2)))
  clear hnm
  go_enter Tryz.func65,Tryz.ntmps65
  go_wp2_with fail
  refine bodyPost_ret (v:=.bool false) (by simp[results,Tryz.results65,go_sem]) rfl ?_
  exact⟨by rw[HX.o],Below.refl _ _⟩
 subst hnm
 have d3:((n:Int) != (n:Int))=false:=by simp
 go_enter Tryz.func65,Tryz.ntmps65
 go_upto_block 0 with fail
 go_wp2_with fail
 go_loopw [13] (λ v13 wr=>∃ i:Nat,i<=n/\v13=.int .i64 i/\Xq (Below w.heap.size w wr/\gs.take i=gs2.take i)) (λ v13 _=>n-(intOf v13).toNat)
 case atStart=>exact⟨0,Nat.zero_le _,rfl,Xj ⟨Below.refl _ _,rfl⟩⟩
 rename World=>wa
 obtain⟨i,hi,rfl,HL⟩:=hrel
 by_cases hlt:i<n
 ·obtain⟨⟨xn,xz⟩,hx⟩:∃ f,gs[i]?=some f:=⟨_,List.getElem?_eq_getElem (by rw[HN.o.1];exact hlt)⟩
  obtain⟨⟨yn,yz⟩,hy⟩:∃ f,gs2[i]?=some f:=⟨_,List.getElem?_eq_getElem (by rw[HN.o.2];exact hlt)⟩
  obtain⟨b1,of1,rfl,hdv,p0,p1⟩:=(HF.o.keep (Q:=P) (λ b hb hlt=>⟨HL.o.1.block b hlt,hb⟩) HL.o.1.size).gg hx
  obtain⟨b2,of2,rfl,hdw,q0,q1⟩:=(HG.o.keep (Q:=Q) (λ b hb hlt=>⟨HL.o.1.block b hlt,hb⟩) HL.o.1.size).gg hy
  have hq:=Im xn yn xz yz
  have HBD:=Xj (HL.o.1.trans ((Below.refl wa.heap.size wa).drew.mono HL.o.1.size))
  have HT1:Xq ((xn,xz)=(yn,yz)->gs.take (i+1)=gs2.take (i+1)):=Xj (λ e=>by rw[List.take_add_one,List.take_add_one,hx,hy,HL.o.2,e])
  have HT2:Xq ((xn,xz)≠(yn,yz)->gs≠gs2):=Xj (λ h e=>by subst e;rw[hx] at hy;injection hy with hy;exact h hy)
  have hi0:(0:Int)<=(i:Int):=by omega
  have hin:(i:Int)<(n:Int):=by omega
  (try dsimp only at p0 p1 q0 q1)
  clear hx hy
  go_upto_region 6 with fail
  refine wp_region_held_drew (S:=(λ w'=>w'.cell? ⟨b1,of1+i*2,none⟩=some (.string (st xn))/\w'.cell? ⟨b1,of1+i*2+1,none⟩=some (.int .i64 xz)/\w'.cell? ⟨b2,of2+i*2,none⟩=some (.string (st yn))/\w'.cell? ⟨b2,of2+i*2+1,none⟩=some (.int .i64 yz))) (by kernel_rfl) ⟨p0,p1,q0,q1⟩ (λ hJ=>?_)
  refine tkH 0 16 ?_
  refine tkH 1 17 ?_
  refine tkH 2 18 ?_
  refine tkH 3 19 ?_
  refine tkH 4 20 ?_
  refine tkH 5 21 ?_
  refine tkH 6 22 ?_
  refine tkH 7 23 ?_
  by_cases heq:(xn,xz)=(yn,yz)
  ·have HX:=Xj (HT1.o heq)
   have hz:(!(xn==yn&&xz==yz))=false:=by injection heq with e1 e2;subst e1 e2;simp
   rw[hz] at hq
   clear heq hz
   refine tkH 8 24 (v:=.bool false) ?_
   refine wpAnyH_done (by kernel_rfl) ?_ _
   clear p0 p1 q0 q1 hJ
   go_wp2_with fail
   go_roundw
   case rel=>exact⟨i+1,by omega,by go_num,Xj ⟨HBD.o,HX.o⟩⟩
   simp[intOf];omega
  have HX:Xq (decide (gs=gs2)=false):=Xj (decide_eq_false (HT2.o heq))
  have hz:(!(xn==yn&&xz==yz))=true:=by
   rw[Bool.not_eq_true',Bool.and_eq_false_iff]
   by_cases e1:xn=yn
   ·subst e1
    exact .inr (beq_eq_false_iff_ne.2 (λ e=>heq (by rw[e])))
   exact .inl (beq_eq_false_iff_ne.2 e1)
  rw[hz] at hq
  clear heq hz
  refine tkH 8 24 (v:=.bool true) ?_
  refine wpAnyH_done (by kernel_rfl) ?_ _
  clear p0 p1 q0 q1 hJ
  go_wp2_with fail
  refine bodyPost_ret (v:=.bool false) (by simp[results,Tryz.results65,go_sem]) rfl ?_
  exact⟨by rw[HX.o],HBD.o⟩
 obtain rfl:i=n:=by omega
 have HX:Xq (decide (gs=gs2)=true):=Xj (decide_eq_true (by
  have:=HL.o.2
  rwa [List.take_of_length_le (by rw[HN.o.1];exact Nat.le_refl _),List.take_of_length_le (by rw[HN.o.2];exact Nat.le_refl _)] at this))
 go_wp2_with fail
 refine bodyPost_ret (v:=.bool true) (by simp[results,Tryz.results65,go_sem]) rfl ?_
 exact⟨by rw[HX.o],HL.o.1⟩
theorem Bf (P Q:Nat->Prop) (gs gs2:List (Bt×Int)) (fs hs:List Fu) (ga ga2 va vb:Value) (w:World) (hF:Jy w P gs fs ga va) (hG:Jy w Q gs2 hs ga2 vb) :
  Calls Tryz.prog 31 #[sov ga va,sov ga2 vb] w λ e w'=>e=.returned (.bool (xqh false gs fs gs2 hs))/\Below w.heap.size w w':=by
 have hA:=hF
 have hB:=hG
 obtain⟨a,ca,a1,ca1,rfl,rfl,-⟩:=Wz hF
 obtain⟨b,cb,b1,cb1,rfl,rfl,-⟩:=Wz hG
 obtain⟨q,hq⟩:∃ z,xqh false gs fs gs2 hs=z:=⟨_,rfl⟩
 have HEQ:Xq (q=(decide (gs=gs2)&&Jq false fs hs)):=Xj (by rw[<- hq];rfl)
 rw[hq]
 obtain⟨n1,hn1⟩:∃ z,gs.length=z:=⟨_,rfl⟩
 obtain⟨n2,hn2⟩:∃ z,fs.length=z:=⟨_,rfl⟩
 obtain⟨m1,hm1⟩:∃ z,gs2.length=z:=⟨_,rfl⟩
 obtain⟨m2,hm2⟩:∃ z,hs.length=z:=⟨_,rfl⟩
 rw[hn1,hn2] at hA ⊢
 rw[hm1,hm2] at hB ⊢
 clear hF hG hn1 hn2 hm1 hm2 hq
 have hb1:=Xw w (.cells #[.slice a n1 ca,.slice a1 n2 ca1] 29)
 have hr1:=heap_alloc_new w (.cells #[.slice a n1 ca,.slice a1 n2 ca1] 29)
 obtain⟨w1,hw1⟩:∃ W,w.alloc (.cells #[.slice a n1 ca,.slice a1 n2 ca1] 29)=W:=⟨_,rfl⟩
 rw[hw1] at hb1 hr1
 have hb2:=Xw w1 (.cells #[.slice b m1 cb,.slice b1 m2 cb1] 29)
 have hr2:=heap_alloc_new w1 (.cells #[.slice b m1 cb,.slice b1 m2 cb1] 29)
 obtain⟨w2,hw2⟩:∃ W,w1.alloc (.cells #[.slice b m1 cb,.slice b1 m2 cb1] 29)=W:=⟨_,rfl⟩
 rw[hw2] at hb2 hr2
 have hs1:w1.heap.size=w.heap.size+1:=by rw[<- hw1];simp
 have hqw:=(hb2.block _ (Xv hr1)).trans hr1
 have HB:=Xj (hb1.trans (hb2.mono hb1.size))
 have HA2:=Xj (hA.keep (Q:=P) (λ b hb hlt=>⟨HB.o.block b hlt,hb⟩) HB.o.size)
 have HC2:=Xj (hB.keep (Q:=Q) (λ b hb hlt=>⟨HB.o.block b hlt,hb⟩) HB.o.size)
 rw[hs1] at hr2
 obtain⟨g,hg⟩:∃ z,w.heap.size=z:=⟨_,rfl⟩
 rw[hg] at hqw hr2
 have HR1:=Xj hqw
 have HR2:=Xj hr2
 have p0:=cell_of_row _ _ 0 _ _ _ hqw
 have q0:=cell_of_row _ _ 0 _ _ _ hr2
 clear hA hB hb1 hb2 hr1 hr2 hqw
 go_enter Tryz.func31,Tryz.ntmps31
 go_upto_region 1 with fail
 (try rw[hw1])
 (try rw[hw2])
 (try rw[hg])
 clear hw1 hw2 hg hs1
 have HK1:=Xj (Mm P Q gs gs2 fs hs _ _ _ _ w2 HA2.o HC2.o)
 obtain⟨v1,hv1⟩:∃ z,decide (gs=gs2)=z:=⟨_,rfl⟩
 rw[hv1] at HK1 HEQ
 clear hv1
 go_wp2_with fail
 refine HK1.o.mono ?_
 rintro e w3 ⟨rfl,hb3⟩
 have HB3:=Xj (HB.o.trans (hb3.mono HB.o.size))
 have HP2:=Xj (HA2.o.keep (Q:=P) (λ b hb hlt=>⟨hb3.block b hlt,hb⟩) hb3.size)
 have HQ2:=Xj (HC2.o.keep (Q:=Q) (λ b hb hlt=>⟨hb3.block b hlt,hb⟩) hb3.size)
 have p1:=cell_of_row _ _ 1 _ _ _ ((hb3.block _ (Xv HR1.o)).trans HR1.o)
 have q1:=cell_of_row _ _ 1 _ _ _ ((hb3.block _ (Xv HR2.o)).trans HR2.o)
 clear hb3 p0 q0 HK1
 cases v1
 ·have HF:Xq (q=false):=Xj (by rw[HEQ.o];rfl)
  go_wp2_with fail
  refine bodyPost_ret (v:=.bool false) (by simp[results,Tryz.results31,go_sem]) rfl ?_
  exact⟨by rw[HF.o],HB3.o⟩
 have HK2:=Xj (Mc P Q gs gs2 fs hs _ _ _ _ w3 HP2.o HQ2.o)
 obtain⟨v2,hv2⟩:∃ z,Jq false fs hs=z:=⟨_,rfl⟩
 rw[hv2] at HK2 HEQ
 clear hv2
 go_wp2_with fail
 refine HK2.o.mono ?_
 rintro e w4 ⟨rfl,hb4⟩
 have HB4:=Xj (HB3.o.trans (hb4.mono HB3.o.size))
 have HF:Xq (q=v2):=Xj (by rw[HEQ.o];rfl)
 clear hb4 p1 q1 HK2
 go_wp2_with fail
 refine bodyPost_ret (v:=.bool v2) (by simp[results,Tryz.results31,go_sem]) rfl ?_
 exact⟨by rw[HF.o],HB4.o⟩
end Go.Proofs.YtldgghnjminhiaaGreatDoor
