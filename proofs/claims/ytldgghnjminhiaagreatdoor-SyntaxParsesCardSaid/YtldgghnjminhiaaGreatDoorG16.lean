/-
  WORDS, PLAIN LAWS and WALKS (Mfm), pressed. (Filled in from templates of this repo.)
-/
import Derived.Test.YtldgghnjminhiaaGreatDoorG15
import Derived.Test.YtldgghnjminhiaaGreatDoorG13
namespace Go.Proofs.YtldgghnjminhiaaGreatDoor
open Go Go.ChangeAt Go.ChangeShapes Go.RowKit Go.WideShapes
set_option linter.unusedVariables false
set_option linter.unusedSimpArgs false
set_option maxRecDepth 100000
set_option maxHeartbeats 16000000
def Sg:List Bt:=[[],[45],[33],[43],[45],[42],[47],[37],[60],[60,61],[61,61],[33,61]]
def sgn (op:Int):Bt:=if op<0 then [] else Sg.getD op.toNat []
theorem Ht (op:Int):(sgn op).length<=2:=by
 unfold sgn
 split
 ·simp
 by_cases h:op.toNat<12
 ·have:op.toNat=0\/op.toNat=1\/op.toNat=2\/op.toNat=3\/op.toNat=4\/op.toNat=5\/op.toNat=6\/op.toNat=7\/op.toNat=8\/op.toNat=9\/op.toNat=10\/op.toNat=11:=by omega
  rcases this with e|e|e|e|e|e|e|e|e|e|e|e<;>rw[e]<;>decide
 have e:Sg[op.toNat]?=none:=List.getElem?_eq_none (by show 12<=_;omega)
 rw[List.getD,e];simp
def Mz (h:Hd):Bool:=decide (h.k=5)||decide (h.k=6)||decide (h.k=7)||decide (h.k=8)
def Km (s:Bt):Bt:=40::(s++[41])
def opd (h:Hd) (s:Bt):Bt:=if Mz h=true then Km s else s
def Qb:List Bt->Bt
 | []=>[]
 | [s]=>s
 | s::r=>s++([44,32]++Qb r)
def Jl (ss:List Bt):Bt:=Km (Qb ss)
def Ql (h:Hd) (os:List (Hd×Bt)):Bt :=
 if h.k=1 then Lib.decDigits h.v.toNat
 else if h.k=13\/h.k=2\/h.k=3 then h.nm
 else if h.k=12 then [114,101,97,100]
 else if h.k=11 then 38::h.nm
 else if h.k=4 then (match os with|[a]=>h.nm++([91]++(a.2++[93]))|_=>[])
 else if h.k=5 then (match os with|[a]=>sgn h.op++opd a.1 a.2|_=>[])
 else if h.k=6 then (match os with|[a,b]=>opd a.1 a.2++([32]++(sgn h.op++([32]++opd b.1 b.2)))|_=>[])
 else if h.k=7 then (match os with|[a,b]=>opd a.1 a.2++([32,38,38,32]++opd b.1 b.2)|_=>[])
 else if h.k=8 then (match os with|[a,b]=>opd a.1 a.2++([32,124,124,32]++opd b.1 b.2)|_=>[])
 else if h.k=9 then h.nm++Jl (os.map (·.2))
 else if h.k=10 then (match os with|a::r=>(if a.1.k=13\/a.1.k=2\/a.1.k=3 then Km (opd a.1 a.2) else opd a.1 a.2)++Jl (r.map (·.2))|[]=>[])
 else []
def Yn:Fo->List (Hd×Bt)
 | .nil=>[]
 | .cons h ar r=>(h,Ql h (Yn ar))::Yn r
abbrev Yt (h:Hd) (ar:Fo):Bt:=Ql h (Yn ar)
theorem Jy (F:Fo):(Yn F).length=F.len:=by
 induction F with
 | nil=>rfl
 | cons h ar r _ ih=>simp[Yn,Fo.len,ih]
theorem Qd (F:Fo) (j:Nat) (x:Hd×Fo) (h:F.get j=some x):(Yn F)[j]?=some (x.1,Yt x.1 x.2):=by
 induction F generalizing j with
 | nil=>cases h
 | cons hd ar r _ ih =>
  cases j with
  | zero =>
   have e:(hd,ar)=x:=by injection h
   subst e;rfl
  | succ j=>exact ih j h
def tot:List (Hd×Bt)->Nat
 | []=>0
 | a::r=>a.2.length+tot r
theorem Zl (h:Hd) (s:Bt):(opd h s).length<=s.length+2:=by
 unfold opd Km
 split
 ·simp
 omega
theorem Wf (os:List (Hd×Bt)):(Qb (os.map (·.2))).length<=tot os+2*os.length:=by
 induction os with
 | nil=>simp[Qb]
 | cons a r ih =>
  cases r with
  | nil=>simp[Qb,tot]
  | cons b r =>
   show (a.2++(([44,32]:Bt)++Qb ((b::r).map (λ (x:Hd×Bt)=>x.2)))).length<=a.2.length+tot (b::r)+2*((b::r).length+1)
   rw[List.length_append,List.length_append]
   simp only[List.length_cons,List.length_nil] at ih ⊢
   omega
theorem Nt (h:Hd) (ar:Fo) (hok:okH h ar) (os:List (Hd×Bt)) (ho:os.length=ar.len):(Ql h os).length<=own h ar.len+tot os:=by
 unfold Ql own
 by_cases k1:h.k=1
 ·rw[if_pos k1,if_pos k1]
  rcases hok with hok|hok|hok
  ·omega
  ·have:=Zk (n:=h.v.toNat) (by omega);omega
  omega
 rw[if_neg k1,if_neg k1]
 have hnm:h.nm.length<=4:=by
  rcases hok with⟨_,_,hok⟩|⟨_,_,hok,_⟩|⟨_,hok,_⟩
  ·rcases hok with⟨_,hok,_⟩|⟨_,hok,_⟩|⟨_,hok,_⟩|⟨_,hok,_⟩|⟨_,hok,_⟩|⟨_,hok,_⟩|⟨_,hok,_⟩<;>first|(obtain⟨_,_,_,_,_,_,hl⟩:=hok;exact hl)|(rw[hok];simp)
  ·rw[hok];simp
  rw[hok];simp
 have hhm:os.length<=3:=by
  rw[ho]
  rcases hok with⟨_,_,hok⟩|⟨_,_,_,_,_,hok⟩|⟨_,_,hok⟩
  ·rcases hok with⟨_,_,hok⟩|⟨_,_,hok⟩|⟨_,_,hok⟩|⟨_,_,hok⟩|⟨_,_,hok⟩|⟨_,_,hok⟩|⟨_,_,g,bs,r,hok,_,hr⟩<;>first|(subst hok;simp[Fo.len];done)|(subst hok;simp only[Fo.len];omega)|omega
  ·subst hok;simp[Fo.len]
  omega
 have hsl:=Ht h.op
 by_cases k13:h.k=13
 ·rw[if_pos (.inl k13),if_pos k13];omega
 by_cases k2:h.k=13\/h.k=2\/h.k=3
 ·rw[if_pos k2,if_neg k13]
  by_cases e:h.k=12
  ·omega
  rw[if_neg e]
  split<;>omega
 rw[if_neg k2,if_neg k13]
 by_cases k12:h.k=12
 ·rw[if_pos k12,if_pos k12];simp;omega
 rw[if_neg k12,if_neg k12]
 by_cases k11:h.k=11
 ·rw[if_pos k11,if_pos k11];simp;omega
 rw[if_neg k11,if_neg k11]
 have hop:=Zl
 split
 ·split
  ·simp[tot];omega
  simp
 split
 ·split
  ·rename_i a
   have:=Zl a.1 a.2
   simp[tot];omega
  simp
 split
 ·split
  ·rename_i a b
   have:=Zl a.1 a.2
   have:=Zl b.1 b.2
   simp[tot];omega
  simp
 split
 ·split
  ·rename_i a b
   have:=Zl a.1 a.2
   have:=Zl b.1 b.2
   simp[tot];omega
  simp
 split
 ·split
  ·rename_i a b
   have:=Zl a.1 a.2
   have:=Zl b.1 b.2
   simp[tot];omega
  simp
 split
 ·have:=Wf os
  simp[Jl,Km];omega
 split
 ·split
  ·rename_i a r
   have h1:=Zl a.1 a.2
   have h2:=Wf r
   simp only[List.length_cons] at hhm
   have h3:(if a.1.k=13\/a.1.k=2\/a.1.k=3 then Km (opd a.1 a.2) else opd a.1 a.2).length<=a.2.length+4:=by
    split
    ·simp[Km];omega
    omega
   simp only[List.length_append,Jl,Km,List.length_cons,List.length_nil,tot] at h3 ⊢
   omega
  simp
 simp
theorem Vd (F:Fo) (hw:F.wf):tot (Yn F)<=F.cst:=by
 induction F with
 | nil=>exact Nat.le_refl _
 | cons h ar r ih1 ih2 =>
  have h1:=ih1 hw.2.2.1
  have h2:=ih2 hw.2.2.2
  have h3:=Nt h ar hw.1 (Yn ar) (Jy ar)
  show (Ql h (Yn ar)).length+tot (Yn r)<=own h ar.len+ar.cst+r.cst
  omega
theorem Cu (h:Hd) (ar:Fo) (hok:okH h ar) (hw:ar.wf):(Yt h ar).length<=own h ar.len+ar.cst:=by
 have h1:=Vd ar hw
 have h3:=Nt h ar hok (Yn ar) (Jy ar)
 show (Ql h (Yn ar)).length<=_
 omega
theorem Qq (x y:Bt):st x++st y=st (x++y):=by apply ByteArray.ext;simp[ByteArray.data_append]
theorem Dt (op:Int) (h0:0<=op) (h1:op<=11) (w:World):Calls Tryz.prog 52 #[.int .i64 op] w λ e w'=>e=.returned (.string (st (sgn op)))/\Below w.heap.size w w':=by
 obtain⟨n,rfl⟩:=Int.eq_ofNat_of_zero_le h0
 have hn:n<12:=by omega
 have hb:=Xw w (.cells (Zm Sg).toArray 9)
 have hr:=heap_alloc_new w (.cells (Zm Sg).toArray 9)
 have hc:(w.alloc (.cells (Zm Sg).toArray 9)).cell? ⟨w.heap.size,n,none⟩=some (.string (st (sgn n))):=by
  rw[cell_of_row _ w.heap.size n _ _ _ hr,List.getElem?_toArray]
  have:n=0\/n=1\/n=2\/n=3\/n=4\/n=5\/n=6\/n=7\/n=8\/n=9\/n=10\/n=11:=by omega
  rcases this with rfl|rfl|rfl|rfl|rfl|rfl|rfl|rfl|rfl|rfl|rfl|rfl<;>rfl
 obtain⟨w1,hw1⟩:∃ W,w.alloc (.cells (Zm Sg).toArray 9)=W:=⟨_,rfl⟩
 obtain⟨g,hg⟩:∃ x,w.heap.size=x:=⟨_,rfl⟩
 have HW:=Xj (And.intro hw1 hg)
 rw[hw1,hg] at hc
 rw[hw1] at hb
 have HB:=Xj hb
 have HCC:=Xj hc
 clear hr hw1 hg hb hc
 have n0:(0:Int)<=(n:Int):=by omega
 have n1:(n:Int)<12:=by omega
 go_enter Tryz.func52,Tryz.ntmps52
 go_upto_region 2 with fail
 (try rw[show w.alloc (.cells #[.string (st []),.string (st [45]),.string (st [33]),.string (st [43]),.string (st [45]),.string (st [42]),.string (st [47]),.string (st [37]),.string (st [60]),.string (st [60,61]),.string (st [61,61]),.string (st [33,61])] 9)=w1 from HW.o.1])
 rw[HW.o.2]
 have hc:=HCC.o
 go_wp2_with fail
 refine bodyPost_ret (v:=.string (st (sgn n))) (by simp[results,Tryz.results52,go_sem]) rfl ?_
 exact⟨rfl,HB.o⟩
theorem Dp (h:Hd) (a:Option Addr) (n c:Nat) (w:World):Calls Tryz.prog 93 #[exv h (.slice a n c)] w λ e w'=>e=.returned (.bool (Mz h))/\Below w.heap.size w w':=by
 obtain⟨p0,p1,p2,p3,p4,p5⟩:=Yu (heap_alloc_new w (.cells #[.int .i64 h.k,.int .i64 h.op,.int .i64 h.v,.int .i64 h.ln,.string (st h.nm),.slice a n c] 37))
 have HK:Xq (Mz h=((h.k==5)||(h.k==6)||(h.k==7)||(h.k==8))):=Xj rfl
 cases e5:(h.k==5)
 ·cases e6:(h.k==6)
  ·cases e7:(h.k==7)
   ·have HE:Xq (Mz h=(h.k==8)):=Xj (by rw[HK.o,e5,e6,e7];rfl)
    go_enter Tryz.func93,Tryz.ntmps93
    go_wp2_with fail
    go_ret
    exact⟨by rw[HE.o];rfl,Xw _ _⟩
   have HE:Xq (Mz h=true):=Xj (by rw[HK.o,e5,e6,e7];rfl)
   go_enter Tryz.func93,Tryz.ntmps93
   go_wp2_with fail
   go_ret
   exact⟨by rw[HE.o];rfl,Xw _ _⟩
  have HE:Xq (Mz h=true):=Xj (by rw[HK.o,e5,e6];rfl)
  go_enter Tryz.func93,Tryz.ntmps93
  go_wp2_with fail
  go_ret
  exact⟨by rw[HE.o];rfl,Xw _ _⟩
 have HE:Xq (Mz h=true):=Xj (by rw[HK.o,e5];rfl)
 go_enter Tryz.func93,Tryz.ntmps93
 go_wp2_with fail
 go_ret
 exact⟨by rw[HE.o];rfl,Xw _ _⟩
def EOK (h:Hd) (ar:Fo):Prop:=∀ (W:World) (sl:Value),Xk W (λ _=>True) ar sl->Calls Tryz.prog 17 #[exv h sl] W λ e w'=>e=.returned (.string (st (Yt h ar)))/\Below W.heap.size W w'
theorem Xk.belowT {w w':World} {ar:Fo} {sl:Value} (h:Xk w (λ _=>True) ar sl) (hb:Below w.heap.size w w'):Xk w' (λ _=>True) ar sl:=h.keep (λ b _ hlt=>⟨hb.block b hlt,trivial⟩) hb.size
theorem Yp (h:Hd) (ar:Fo) (hE:EOK h ar) (hl:(Yt h ar).length<=1000000) (w:World) (sl:Value) (ha:Xk w (λ _=>True) ar sl):Calls Tryz.prog 53 #[exv h sl] w λ e w'=>e=.returned (.string (st (opd h (Yt h ar))))/\Below w.heap.size w w':=by
 have HE:=Xj hE
 have HA0:=Xj ha
 obtain⟨a,c,rws,rfl,_⟩:=ha
 have hb1:=Xw w (.cells #[.int .i64 h.k,.int .i64 h.op,.int .i64 h.v,.int .i64 h.ln,.string (st h.nm),.slice a ar.len c] 37)
 have hr1:=heap_alloc_new w (.cells #[.int .i64 h.k,.int .i64 h.op,.int .i64 h.v,.int .i64 h.ln,.string (st h.nm),.slice a ar.len c] 37)
 have HA1:=Xj (HA0.o.belowT hb1)
 clear hE
 go_enter Tryz.func53,Tryz.ntmps53
 go_upto_region 1 with fail
 obtain⟨w1,hw1⟩:∃ W,w.alloc (.cells #[.int .i64 h.k,.int .i64 h.op,.int .i64 h.v,.int .i64 h.ln,.string (st h.nm),.slice a ar.len c] 37)=W:=⟨_,rfl⟩
 obtain⟨g,hg⟩:∃ x,w.heap.size=x:=⟨_,rfl⟩
 rw[hw1] at hb1 hr1 HA1 ⊢
 rw[hg] at hr1
 (try rw[hg])
 have HB1:=Xj hb1
 have HR1:=Xj hr1
 obtain⟨p0,p1,p2,p3,p4,p5⟩:=Yu hr1
 clear hw1 hb1 hr1 hg
 go_wp2_with fail
 refine(Dp h a ar.len c _).mono ?_
 rintro e w2 ⟨rfl,hb2⟩
 have HB2:=Xj (HB1.o.trans (hb2.mono HB1.o.size))
 have HA2:=Xj (HA1.o.belowT hb2)
 obtain⟨s0,s1,s2,s3,s4,s5⟩:=Yu ((hb2.block g (Xv HR1.o)).trans HR1.o)
 clear hb2 p0 p1 p2 p3 p4 p5
 cases hc:Mz h
 ·have HO:Xq (opd h (Yt h ar)=Yt h ar):=Xj (by unfold opd;rw[hc];rfl)
  go_wp2_with fail
  refine(HE.o _ _ HA2.o).mono ?_
  rintro e w3 ⟨rfl,hb3⟩
  have HB3:=Xj (HB2.o.trans (hb3.mono HB2.o.size))
  obtain⟨t,ht⟩:∃ t,Yt h ar=t:=⟨_,rfl⟩
  have HT:=Xj ht
  rw[ht]
  clear ht
  go_wp2_with fail
  refine bodyPost_ret (v:=.string (st t)) (by simp[results,Tryz.results53,go_sem]) rfl ?_
  exact⟨by rw[HO.o,HT.o],HB3.o⟩
 have HO:Xq (opd h (Yt h ar)=Km (Yt h ar)):=Xj (by unfold opd;rw[hc];rfl)
 go_wp2_with fail
 refine(HE.o _ _ HA2.o).mono ?_
 rintro e w3 ⟨rfl,hb3⟩
 have HB3:=Xj (HB2.o.trans (hb3.mono HB2.o.size))
 obtain⟨t,ht⟩:∃ t,Yt h ar=t:=⟨_,rfl⟩
 have HT:=Xj ht
 rw[ht] at hl ⊢
 clear ht
 have hst:=Qq
 go_wp2_with fail
 refine bodyPost_ret (v:=.string (st (40::(t++[41])))) (by simp[results,Tryz.results53,go_sem]) rfl ?_
 exact⟨by rw[HO.o,HT.o];rfl,HB3.o⟩
theorem Ys.get {w:World} {P:Nat->Prop} {F:Fo} {cs:List Value} (h:Ys w P F cs) {j:Nat} {x:Hd×Fo} (hj:F.get j=some x):∃ sl,Xk w P x.2 sl/\∀ i u,(hdc x.1 sl)[i]?=some u->cs[j*6+i]?=some u:=by
 induction F generalizing cs j with
 | nil=>cases hj
 | cons hd ar r _ ih =>
  obtain⟨a,cap,rws,cs',rfl,h1,h2,h3,h4,h5,h6⟩:=h
  cases j with
  | zero =>
   have e:(hd,ar)=x:=by injection hj
   subst e
   refine⟨_,⟨a,cap,rws,rfl,h1,h2,h3,h4,h5⟩,λ i u hi=>?_⟩
   have:i<6:=(List.getElem?_eq_some_iff.1 hi).1
   rw[Nat.zero_mul,Nat.zero_add,List.getElem?_append_left (by simpa using this)]
   exact hi
  | succ j =>
   obtain⟨sl,k1,k2⟩:=ih h6 hj
   refine⟨sl,k1,λ i u hi=>?_⟩
   rw[List.getElem?_append_right (by show 6<=_;omega)]
   have e:(j+1)*6+i-6=j*6+i:=by omega
   show cs'[(j+1)*6+i-6]?=_
   rw[e]
   exact k2 i u hi
theorem Hg (l:List Bt) (s:Bt):Qb (l++[s])=if l=[] then s else Qb l++([44,32]++s):=by
 induction l with
 | nil=>rfl
 | cons x l ih =>
  rw[if_neg (by simp)]
  cases l with
  | nil=>rfl
  | cons y l =>
   rw[if_neg (by simp)] at ih
   show x++([44,32]++Qb ((y::l)++[s]))=x++([44,32]++Qb (y::l))++([44,32]++s)
   rw[ih]
   simp[List.append_assoc]
theorem Tn (os:List (Hd×Bt)) (i:Nat) (x:Hd×Bt) (h:os[i]?=some x):Qb ((os.map (·.2)).take (i+1))=if i=0 then x.2 else Qb ((os.map (·.2)).take i)++([44,32]++x.2):=by
 have hi:=(List.getElem?_eq_some_iff.1 h).1
 have e:(os.map (·.2)).take (i+1)=(os.map (·.2)).take i++[x.2]:=by
  rw[List.take_add_one]
  congr 1
  rw[List.getElem?_map,h];rfl
 rw[e,Hg]
 by_cases h0:i=0
 ·subst h0;simp
 rw[if_neg h0,if_neg (by
  intro e2
  have h3:((os.map (·.2)).take i).length=i:=by rw[List.length_take,List.length_map];omega
  rw[e2] at h3
  exact h0 h3.symm)]
theorem Rb (os:List (Hd×Bt)) (i:Nat) (x:Hd×Bt) (h:os[i]?=some x):x.2.length<=tot os:=by
 induction os generalizing i with
 | nil=>simp at h
 | cons a r ih =>
  cases i with
  | zero=>simp at h;subst h;simp[tot]
  | succ i=>have:=ih i (by simpa using h);simp only[tot];omega
theorem Gs (os:List (Hd×Bt)) (i:Nat):(Qb ((os.map (·.2)).take i)).length<=tot os+2*os.length:=by
 have h1:=Wf (os.take i)
 rw[List.map_take] at h1
 have h2:tot (os.take i)<=tot os:=by
  clear h1
  induction os generalizing i with
  | nil=>simp[tot]
  | cons a r ih =>
   cases i with
   | zero=>simp[tot]
   | succ i=>have:=ih i;simp only[List.take_succ_cons,tot];omega
 have h3:(os.take i).length<=os.length:=by simp;omega
 omega
theorem Dz (F:Fo) (hE:∀ j x,F.get j=some x->EOK x.1 x.2) (hl:tot (Yn F)<=1000000) (hn:F.len<=1000) (w:World) (a:Option Addr) (cap:Nat) (cs:List Value) (hs:Vt w (λ _=>True) a cs) (hF:Ys w (λ _=>True) F cs) :
  Calls Tryz.prog 54 #[.slice a F.len cap] w λ e w'=>e=.returned (.string (st (Jl ((Yn F).map (·.2)))))/\Below w.heap.size w w':=by
 have HE:=Xj hE
 have HS:=Xj hs
 have HFO:=Xj hF
 have hfl:=Jy F
 clear hE hs hF
 obtain⟨n,hn2⟩:∃ n,F.len=n:=⟨_,rfl⟩
 rw[hn2] at hn hfl ⊢
 have HN:=Xj hn2
 have HFL:=Xj hfl
 clear hn2 hfl
 go_enter Tryz.func54,Tryz.ntmps54
 go_upto_block 0 with fail
 go_wp2_with fail
 go_loopw [3,4] (λ v3 v4 wr=>∃ i:Nat,i<=n/\v3=.string (st (40::Qb (((Yn F).map (·.2)).take i)))/\v4=.int .i64 i/\Xq (Below w.heap.size w wr)) (λ _ v4 _=>n-(intOf v4).toNat)
 case atStart=>exact⟨0,by omega,rfl,rfl,Xj (Below.refl _ _)⟩
 obtain⟨i,hi,rfl,rfl,HR⟩:=hrel
 have hcl:=Gs (Yn F) i
 rw[HFL.o] at hcl
 by_cases hlt:i<n
 ·obtain⟨x,hx⟩:=Fo.get_lt (F:=F) (i:=i) (by rw[HN.o];exact hlt)
  obtain⟨sl,ha,hc⟩:=HFO.o.get hx
  have hhc:=hc 0 _ rfl
  obtain⟨b,off,rfl,_,hb,hjx⟩:=HS.o (λ e=>by rw[e] at hhc;cases hhc)
  have hg:=Qd F i x hx
  have HCT:=Xj (Tn (Yn F) i _ hg)
  have hel:=Rb _ _ _ hg
  have HA:=Xj ((ha.keep (Q:=λ _=>True) (λ b _ hlt=>⟨HR.o.block b hlt,trivial⟩) HR.o.size))
  have hk:∀ j u,(hdc x.1 sl)[j]?=some u->wr.cell? ⟨b,off+(i*6+j),none⟩=some u:=λ j u hj=>(HR.o.cell (p:=⟨b,off+(i*6+j),none⟩) hb).trans (hjx _ _ (hc j u hj))
  obtain⟨asl,csl,_,rfl,-⟩:=ha
  have k0:wr.cell? ⟨b,off+i*6,none⟩=some (.int .i64 x.1.k):=hk 0 _ rfl
  have k1:wr.cell? ⟨b,off+i*6+1,none⟩=some (.int .i64 x.1.op):=by rw[Nat.add_assoc];exact hk 1 _ rfl
  have k2:wr.cell? ⟨b,off+i*6+2,none⟩=some (.int .i64 x.1.v):=by rw[Nat.add_assoc];exact hk 2 _ rfl
  have k3:wr.cell? ⟨b,off+i*6+3,none⟩=some (.int .i64 x.1.ln):=by rw[Nat.add_assoc];exact hk 3 _ rfl
  have k4:wr.cell? ⟨b,off+i*6+4,none⟩=some (.string (st x.1.nm)):=by rw[Nat.add_assoc];exact hk 4 _ rfl
  have k5:wr.cell? ⟨b,off+i*6+5,none⟩=some (.slice asl x.2.len csl):=by rw[Nat.add_assoc];exact hk 5 _ rfl
  have HXE:=Xj (HE.o i x hx)
  obtain⟨t,ht⟩:∃ t,Yt x.1 x.2=t:=⟨_,rfl⟩
  obtain⟨p,hp⟩:∃ p,Qb (((Yn F).map (·.2)).take i)=p:=⟨_,rfl⟩
  have HTT:=Xj ht
  have HPP:=Xj hp
  have hel2:t.length<=1000000:=by rw[<- ht];exact Nat.le_trans hel hl
  rw[hp] at hcl ⊢
  clear hk hc hhc hjx hg hel ht hp hx
  have hst:=Qq
  by_cases hi0:i=0
  ·subst hi0
   rw[Nat.zero_mul,Nat.add_zero] at k0 k1 k2 k3 k4 k5
   have HT1:Xq (Qb (((Yn F).map (·.2)).take 1)=p++t):=Xj (by
    have h1:=HCT.o
    rw[if_pos rfl] at h1
    rw[h1,<- HTT.o,<- HPP.o];rfl)
   go_wp2_with fail
   refine(HXE.o _ _ HA.o).mono ?_
   rintro e w2 ⟨rfl,hb2⟩
   have HB2:=Xj (HR.o.trans (hb2.mono HR.o.size))
   rw[HTT.o]
   clear hb2 k0 k1 k2 k3 k4 k5
   go_wp2_with fail
   go_roundw
   case rel=>exact⟨1,by omega,(by rw[HT1.o];try simp),by go_num,HB2⟩
   simp[intOf];omega
  have hip:decide ((0:Int)<(i:Int))=true:=by rw[decide_eq_true_iff];omega
  have hip2:0<i:=by omega
  have HT1:Xq (Qb (((Yn F).map (·.2)).take (i+1))=p++([44,32]++t)):=Xj (by
   have h1:=HCT.o
   rw[if_neg hi0] at h1
   rw[h1,<- HTT.o,<- HPP.o])
  clear hi0
  go_wp2_with fail
  refine(HXE.o _ _ HA.o).mono ?_
  rintro e w2 ⟨rfl,hb2⟩
  have HB2:=Xj (HR.o.trans (hb2.mono HR.o.size))
  rw[HTT.o]
  clear hb2 k0 k1 k2 k3 k4 k5
  go_wp2_with fail
  go_roundw
  case rel=>exact⟨i+1,by omega,(by rw[HT1.o];try simp),by go_num,HB2⟩
  simp[intOf];omega
 obtain rfl:i=n:=by omega
 have HCE:Xq (Qb (((Yn F).map (·.2)).take i)=Qb ((Yn F).map (·.2))):=Xj (by rw[List.take_of_length_le (by rw[List.length_map,HFL.o];exact Nat.le_refl _)])
 obtain⟨p,hp⟩:∃ p,Qb (((Yn F).map (·.2)).take i)=p:=⟨_,rfl⟩
 have HPP:=Xj hp
 rw[hp] at hcl ⊢
 clear hp
 have hst:=Qq
 go_wp2_with fail
 refine bodyPost_ret (v:=.string (st (40::(p++[41])))) (by simp[results,Tryz.results54,go_sem]) rfl ?_
 exact⟨by rw[<- HPP.o,HCE.o];rfl,HR.o⟩
theorem Xk.elem {w:World} {ar:Fo} {a:Option Addr} {c:Nat} (h:Xk w (λ _=>True) ar (.slice a ar.len c)) {j:Nat} {x:Hd×Fo} (hj:ar.get j=some x) :
  ∃ b off asl csl,a=some ⟨b,off,none⟩/\b<w.heap.size/\Xq (Xk w (λ _=>True) x.2 (.slice asl x.2.len csl))/\w.cell? ⟨b,off+j*6,none⟩=some (.int .i64 x.1.k)/\w.cell? ⟨b,off+j*6+1,none⟩=some (.int .i64 x.1.op)/\w.cell? ⟨b,off+j*6+2,none⟩=some (.int .i64 x.1.v)/\w.cell? ⟨b,off+j*6+3,none⟩=some (.int .i64 x.1.ln)/\w.cell? ⟨b,off+j*6+4,none⟩=some (.string (st x.1.nm))/\w.cell? ⟨b,off+j*6+5,none⟩=some (.slice asl x.2.len csl):=by
 obtain⟨a',c',rws,e,h1,h2,h3,h4,h5⟩:=h
 injection e with e1 e2 e3
 subst e1
 obtain⟨sl,ha,hc⟩:=h5.get hj
 obtain⟨b,off,rfl,_,hb,hjx⟩:=h4 (λ e=>by have:=hc 0 _ rfl;rw[e] at this;cases this)
 obtain⟨asl,csl,_,rfl,-⟩:=id ha
 have hk:∀ i u,(hdc x.1 (.slice asl x.2.len csl))[i]?=some u->w.cell? ⟨b,off+(j*6+i),none⟩=some u:=λ i u hi=>hjx _ _ (hc i u hi)
 exact⟨b,off,asl,csl,rfl,hb,Xj ha,hk 0 _ rfl,by rw[Nat.add_assoc];exact hk 1 _ rfl,by rw[Nat.add_assoc];exact hk 2 _ rfl,by rw[Nat.add_assoc];exact hk 3 _ rfl,by rw[Nat.add_assoc];exact hk 4 _ rfl,by rw[Nat.add_assoc];exact hk 5 _ rfl⟩
theorem Ay (h:Hd) (ar:Fo) (hkk:h.k=13):EOK h ar:=by
 intro w sl ha
 have HA0:=Xj ha
 obtain⟨a,c,rws,rfl,hlc,hcm,-,-,-⟩:=ha
 have hb1:=Xw w (.cells #[.int .i64 h.k,.int .i64 h.op,.int .i64 h.v,.int .i64 h.ln,.string (st h.nm),.slice a ar.len c] 37)
 have hr1:=heap_alloc_new w (.cells #[.int .i64 h.k,.int .i64 h.op,.int .i64 h.v,.int .i64 h.ln,.string (st h.nm),.slice a ar.len c] 37)
 have HA1:=Xj (HA0.o.belowT hb1)
 have HV:Xq (Yt h ar=h.nm):=Xj (by show Ql h (Yn ar)=_;unfold Ql;simp[hkk])
 have HKK:=Xj hkk
 clear hkk
 go_enter Tryz.func17,Tryz.ntmps17
 go_upto_region 1 with fail
 obtain⟨w1,hw1⟩:∃ W,w.alloc (.cells #[.int .i64 h.k,.int .i64 h.op,.int .i64 h.v,.int .i64 h.ln,.string (st h.nm),.slice a ar.len c] 37)=W:=⟨_,rfl⟩
 obtain⟨g,hg⟩:∃ x,w.heap.size=x:=⟨_,rfl⟩
 rw[hw1] at hb1 hr1 HA1 ⊢
 rw[hg] at hr1
 (try rw[hg])
 have HB1:=Xj hb1
 obtain⟨p0,p1,p2,p3,p4,p5⟩:=Yu hr1
 clear hw1 hb1 hr1 hg
 have hk:=HKK.o
 rw[hk] at p0
 clear hk
 go_wp2_with fail
 refine bodyPost_ret (v:=.string (st h.nm)) (by simp[results,Tryz.results17,go_sem]) rfl ?_
 exact⟨by rw[HV.o],HB1.o⟩
theorem Ak (h:Hd) (ar:Fo) (hkk:h.k=12):EOK h ar:=by
 intro w sl ha
 have HA0:=Xj ha
 obtain⟨a,c,rws,rfl,hlc,hcm,-,-,-⟩:=ha
 have hb1:=Xw w (.cells #[.int .i64 h.k,.int .i64 h.op,.int .i64 h.v,.int .i64 h.ln,.string (st h.nm),.slice a ar.len c] 37)
 have hr1:=heap_alloc_new w (.cells #[.int .i64 h.k,.int .i64 h.op,.int .i64 h.v,.int .i64 h.ln,.string (st h.nm),.slice a ar.len c] 37)
 have HA1:=Xj (HA0.o.belowT hb1)
 have HV:Xq (Yt h ar=[114,101,97,100]):=Xj (by show Ql h (Yn ar)=_;unfold Ql;simp[hkk])
 have HKK:=Xj hkk
 clear hkk
 go_enter Tryz.func17,Tryz.ntmps17
 go_upto_region 1 with fail
 obtain⟨w1,hw1⟩:∃ W,w.alloc (.cells #[.int .i64 h.k,.int .i64 h.op,.int .i64 h.v,.int .i64 h.ln,.string (st h.nm),.slice a ar.len c] 37)=W:=⟨_,rfl⟩
 obtain⟨g,hg⟩:∃ x,w.heap.size=x:=⟨_,rfl⟩
 rw[hw1] at hb1 hr1 HA1 ⊢
 rw[hg] at hr1
 (try rw[hg])
 have HB1:=Xj hb1
 obtain⟨p0,p1,p2,p3,p4,p5⟩:=Yu hr1
 clear hw1 hb1 hr1 hg
 have hk:=HKK.o
 rw[hk] at p0
 clear hk
 go_wp2_with fail
 refine bodyPost_ret (v:=.string (st [114,101,97,100])) (by simp[results,Tryz.results17,go_sem]) rfl ?_
 exact⟨by rw[HV.o],HB1.o⟩
theorem Au (h:Hd) (ar:Fo) (hkk:h.k=11) (hn:h.nm.length<=4):EOK h ar:=by
 intro w sl ha
 have HA0:=Xj ha
 obtain⟨a,c,rws,rfl,hlc,hcm,-,-,-⟩:=ha
 have hb1:=Xw w (.cells #[.int .i64 h.k,.int .i64 h.op,.int .i64 h.v,.int .i64 h.ln,.string (st h.nm),.slice a ar.len c] 37)
 have hr1:=heap_alloc_new w (.cells #[.int .i64 h.k,.int .i64 h.op,.int .i64 h.v,.int .i64 h.ln,.string (st h.nm),.slice a ar.len c] 37)
 have HA1:=Xj (HA0.o.belowT hb1)
 have HV:Xq (Yt h ar=38::h.nm):=Xj (by show Ql h (Yn ar)=_;unfold Ql;simp[hkk])
 have HKK:=Xj hkk
 clear hkk
 go_enter Tryz.func17,Tryz.ntmps17
 go_upto_region 1 with fail
 obtain⟨w1,hw1⟩:∃ W,w.alloc (.cells #[.int .i64 h.k,.int .i64 h.op,.int .i64 h.v,.int .i64 h.ln,.string (st h.nm),.slice a ar.len c] 37)=W:=⟨_,rfl⟩
 obtain⟨g,hg⟩:∃ x,w.heap.size=x:=⟨_,rfl⟩
 rw[hw1] at hb1 hr1 HA1 ⊢
 rw[hg] at hr1
 (try rw[hg])
 have HB1:=Xj hb1
 obtain⟨p0,p1,p2,p3,p4,p5⟩:=Yu hr1
 clear hw1 hb1 hr1 hg
 have hk:=HKK.o
 rw[hk] at p0
 clear hk
 have hst:=Qq [38] h.nm
 go_wp2_with fail
 refine bodyPost_ret (v:=.string (st (38::h.nm))) (by simp[results,Tryz.results17,go_sem]) rfl ?_
 exact⟨by rw[HV.o],HB1.o⟩
theorem Mm (h:Hd) (ar:Fo) (hkk:h.k=1) (h0:0<=h.v) (h1:h.v<=9223372036854775807):EOK h ar:=by
 intro w sl ha
 have HA0:=Xj ha
 obtain⟨a,c,rws,rfl,hlc,hcm,-,-,-⟩:=ha
 have hb1:=Xw w (.cells #[.int .i64 h.k,.int .i64 h.op,.int .i64 h.v,.int .i64 h.ln,.string (st h.nm),.slice a ar.len c] 37)
 have hr1:=heap_alloc_new w (.cells #[.int .i64 h.k,.int .i64 h.op,.int .i64 h.v,.int .i64 h.ln,.string (st h.nm),.slice a ar.len c] 37)
 have HA1:=Xj (HA0.o.belowT hb1)
 have HV:Xq (Yt h ar=Lib.decDigits h.v.toNat):=Xj (by show Ql h (Yn ar)=_;unfold Ql;simp[hkk])
 have HKK:=Xj hkk
 clear hkk
 go_enter Tryz.func17,Tryz.ntmps17
 go_upto_region 1 with fail
 obtain⟨w1,hw1⟩:∃ W,w.alloc (.cells #[.int .i64 h.k,.int .i64 h.op,.int .i64 h.v,.int .i64 h.ln,.string (st h.nm),.slice a ar.len c] 37)=W:=⟨_,rfl⟩
 obtain⟨g,hg⟩:∃ x,w.heap.size=x:=⟨_,rfl⟩
 rw[hw1] at hb1 hr1 HA1 ⊢
 rw[hg] at hr1
 (try rw[hg])
 have HB1:=Xj hb1
 obtain⟨p0,p1,p2,p3,p4,p5⟩:=Yu hr1
 clear hw1 hb1 hr1 hg
 have hk:=HKK.o
 rw[hk] at p0
 clear hk
 obtain⟨z,hz⟩:∃ z:Nat,h.v=z:=Int.eq_ofNat_of_zero_le h0
 rw[hz] at p2 HV h1
 have z1:z<=9223372036854775807:=by omega
 have z0:(0:Int)<=(z:Int):=by omega
 have zm:max (z:Int) 0=(z:Int):=by omega
 go_wp2_with fail
 refine(Zy z z1 _).mono ?_
 rintro e w2 ⟨rfl,hb2⟩
 go_wp2_with fail
 refine bodyPost_ret (v:=.string (st (Lib.decDigits z))) (by simp[results,Tryz.results17,go_sem]) rfl ?_
 exact⟨by rw[HV.o];rfl,HB1.o.trans (hb2.mono HB1.o.size)⟩
theorem Dl (h:Hd) (ar:Fo) (hkk:h.k=4) (hn:h.nm.length<=4) (x:Hd×Fo) (hx:ar.get 0=some x) (He:ar.len=1) (hE:EOK x.1 x.2) (hl:(Yt x.1 x.2).length<=1000000):EOK h ar:=by
 intro w sl ha
 have HA0:=Xj ha
 obtain⟨a,c,rws,rfl,hlc,hcm,-,-,-⟩:=ha
 have hb1:=Xw w (.cells #[.int .i64 h.k,.int .i64 h.op,.int .i64 h.v,.int .i64 h.ln,.string (st h.nm),.slice a ar.len c] 37)
 have hr1:=heap_alloc_new w (.cells #[.int .i64 h.k,.int .i64 h.op,.int .i64 h.v,.int .i64 h.ln,.string (st h.nm),.slice a ar.len c] 37)
 have HA1:=Xj (HA0.o.belowT hb1)
 have HV:Xq (Yt h ar=h.nm++([91]++(Yt x.1 x.2++[93]))):=Xj (by
  have h1:=Qd ar 0 x hx
  have h2:=Jy ar
  show Ql h (Yn ar)=_
  match hf:Yn ar,h1,h2 with
  | [q],h1,_=>simp at h1;subst h1;unfold Ql;simp[hkk]
  | [],h1,_=>simp at h1
  | _::_::_,_,h2=>simp[He] at h2)
 have HLN:=Xj He
 clear He
 have HKK:=Xj hkk
 clear hkk
 go_enter Tryz.func17,Tryz.ntmps17
 go_upto_region 1 with fail
 obtain⟨w1,hw1⟩:∃ W,w.alloc (.cells #[.int .i64 h.k,.int .i64 h.op,.int .i64 h.v,.int .i64 h.ln,.string (st h.nm),.slice a ar.len c] 37)=W:=⟨_,rfl⟩
 obtain⟨g,hg⟩:∃ x,w.heap.size=x:=⟨_,rfl⟩
 rw[hw1] at hb1 hr1 HA1 ⊢
 rw[hg] at hr1
 (try rw[hg])
 have HB1:=Xj hb1
 obtain⟨p0,p1,p2,p3,p4,p5⟩:=Yu hr1
 clear hw1 hb1 hr1 hg
 have hk:=HKK.o
 rw[hk] at p0
 clear hk
 obtain⟨b,off,asl,csl,rfl,hbl,HX,k0,k1,k2,k3,k4,k5⟩:=HA1.o.elem hx
 rw[Nat.zero_mul,Nat.add_zero] at k0 k1 k2 k3 k4 k5
 rw[HLN.o] at p5 hlc
 (try rw[HLN.o])
 have HEE:=Xj hE
 clear hE hx
 go_upto_region 15 with fail
 refine Xn (by kernel_rfl) (by kernel_rfl) ?_
 have g0:∀ x:Xy w1,x.val.cell? ⟨g,4,none⟩=some (.string (st h.nm)):=λ x=>x.cell p4
 have g1:∀ x:Xy w1,x.val.cell? ⟨g,5,none⟩=some (.slice (some ⟨b,off,none⟩) 1 c):=λ x=>x.cell p5
 have m0:∀ y:Xy w1,y.val.cell? ⟨b,off,none⟩=some (.int .i64 x.1.k):=λ y=>y.cell k0
 have m1:∀ y:Xy w1,y.val.cell? ⟨b,off+1,none⟩=some (.int .i64 x.1.op):=λ y=>y.cell k1
 have m2:∀ y:Xy w1,y.val.cell? ⟨b,off+2,none⟩=some (.int .i64 x.1.v):=λ y=>y.cell k2
 have m3:∀ y:Xy w1,y.val.cell? ⟨b,off+3,none⟩=some (.int .i64 x.1.ln):=λ y=>y.cell k3
 have m4:∀ y:Xy w1,y.val.cell? ⟨b,off+4,none⟩=some (.string (st x.1.nm)):=λ y=>y.cell k4
 have m5:∀ y:Xy w1,y.val.cell? ⟨b,off+5,none⟩=some (.slice asl x.2.len csl):=λ y=>y.cell k5
 have hst:=Qq
 repeat (go_big_quiet_step ((first|(go_at_call 17;exact Xd _ (HEE.o _ _ (HX.o.belowT (Xy.property _)))))))
 refine wpQuiet_nil ?_
 intro w2 hb2
 clear g0 g1 m0 m1 m2 m3 m4 m5
 go_wp2_with fail
 refine bodyPost_ret (v:=.string (st (h.nm++91::(Yt x.1 x.2++[93])))) (by simp[results,Tryz.results17,go_sem]) rfl ?_
 exact⟨by rw[HV.o];rfl,HB1.o.trans (hb2.mono HB1.o.size)⟩
theorem Ru (h:Hd) (ar:Fo) (hkk:h.k=5) (ho0:0<=h.op) (ho1:h.op<=11) (x:Hd×Fo) (hx:ar.get 0=some x) (He:ar.len=1) (hE:EOK x.1 x.2) (hl:(Yt x.1 x.2).length<=1000000):EOK h ar:=by
 intro w sl ha
 have HA0:=Xj ha
 obtain⟨a,c,rws,rfl,hlc,hcm,-,-,-⟩:=ha
 have hb1:=Xw w (.cells #[.int .i64 h.k,.int .i64 h.op,.int .i64 h.v,.int .i64 h.ln,.string (st h.nm),.slice a ar.len c] 37)
 have hr1:=heap_alloc_new w (.cells #[.int .i64 h.k,.int .i64 h.op,.int .i64 h.v,.int .i64 h.ln,.string (st h.nm),.slice a ar.len c] 37)
 have HA1:=Xj (HA0.o.belowT hb1)
 have HOP:=Xj (And.intro ho0 ho1)
 clear ho0 ho1
 have HV:Xq (Yt h ar=sgn h.op++opd x.1 (Yt x.1 x.2)):=Xj (by
  have h1:=Qd ar 0 x hx
  have h2:=Jy ar
  show Ql h (Yn ar)=_
  match hf:Yn ar,h1,h2 with
  | [q],h1,_=>simp at h1;subst h1;unfold Ql;simp[hkk]
  | [],h1,_=>simp at h1
  | _::_::_,_,h2=>simp[He] at h2)
 have HLN:=Xj He
 clear He
 have HKK:=Xj hkk
 clear hkk
 go_enter Tryz.func17,Tryz.ntmps17
 go_upto_region 1 with fail
 obtain⟨w1,hw1⟩:∃ W,w.alloc (.cells #[.int .i64 h.k,.int .i64 h.op,.int .i64 h.v,.int .i64 h.ln,.string (st h.nm),.slice a ar.len c] 37)=W:=⟨_,rfl⟩
 obtain⟨g,hg⟩:∃ x,w.heap.size=x:=⟨_,rfl⟩
 rw[hw1] at hb1 hr1 HA1 ⊢
 rw[hg] at hr1
 (try rw[hg])
 have HB1:=Xj hb1
 obtain⟨p0,p1,p2,p3,p4,p5⟩:=Yu hr1
 clear hw1 hb1 hr1 hg
 have hk:=HKK.o
 rw[hk] at p0
 clear hk
 obtain⟨b,off,asl,csl,rfl,hbl,HX,k0,k1,k2,k3,k4,k5⟩:=HA1.o.elem hx
 rw[Nat.zero_mul,Nat.add_zero] at k0 k1 k2 k3 k4 k5
 rw[HLN.o] at p5 hlc
 (try rw[HLN.o])
 have HEE:=Xj hE
 have hol:=Zl x.1 (Yt x.1 x.2)
 have HOL:=Xj hl
 clear hE
 have hsl:=Ht h.op
 clear hx
 go_upto_region 18 with fail
 refine Xn (by kernel_rfl) (by kernel_rfl) ?_
 have g0:∀ x:Xy w1,x.val.cell? ⟨g,1,none⟩=some (.int .i64 h.op):=λ x=>x.cell p1
 have g1:∀ x:Xy w1,x.val.cell? ⟨g,5,none⟩=some (.slice (some ⟨b,off,none⟩) 1 c):=λ x=>x.cell p5
 have m0:∀ s:Xy w1,s.val.cell? ⟨b,off,none⟩=some (.int .i64 x.1.k):=λ s=>s.cell k0
 have m1:∀ s:Xy w1,s.val.cell? ⟨b,off+1,none⟩=some (.int .i64 x.1.op):=λ s=>s.cell k1
 have m2:∀ s:Xy w1,s.val.cell? ⟨b,off+2,none⟩=some (.int .i64 x.1.v):=λ s=>s.cell k2
 have m3:∀ s:Xy w1,s.val.cell? ⟨b,off+3,none⟩=some (.int .i64 x.1.ln):=λ s=>s.cell k3
 have m4:∀ s:Xy w1,s.val.cell? ⟨b,off+4,none⟩=some (.string (st x.1.nm)):=λ s=>s.cell k4
 have m5:∀ s:Xy w1,s.val.cell? ⟨b,off+5,none⟩=some (.slice asl x.2.len csl):=λ s=>s.cell k5
 have hst:=Qq
 repeat (go_big_quiet_step ((first|(go_at_call 53;exact Xd _ (Yp x.1 x.2 HEE.o HOL.o _ _ (HX.o.belowT (Xy.property _))))|(go_at_call 52;exact Xd _ (Dt h.op HOP.o.1 HOP.o.2 _)))))
 refine wpQuiet_nil ?_
 intro w2 hb2
 clear g0 g1 m0 m1 m2 m3 m4 m5
 go_wp2_with fail
 refine bodyPost_ret (v:=.string (st (sgn h.op++opd x.1 (Yt x.1 x.2)))) (by simp[results,Tryz.results17,go_sem]) rfl ?_
 exact⟨(by rw[HV.o];try simp[List.append_assoc]),HB1.o.trans (hb2.mono HB1.o.size)⟩
theorem Mc (h:Hd) (ar:Fo) (hkk:h.k=6) (ho0:0<=h.op) (ho1:h.op<=11) (x y:Hd×Fo) (hx:ar.get 0=some x) (hy:ar.get 1=some y) (He:ar.len=2) (hE:EOK x.1 x.2) (hl:(Yt x.1 x.2).length<=1000000) (hE2:EOK y.1 y.2) (hl2:(Yt y.1 y.2).length<=1000000):EOK h ar:=by
 intro w sl ha
 have HA0:=Xj ha
 obtain⟨a,c,rws,rfl,hlc,hcm,-,-,-⟩:=ha
 have hb1:=Xw w (.cells #[.int .i64 h.k,.int .i64 h.op,.int .i64 h.v,.int .i64 h.ln,.string (st h.nm),.slice a ar.len c] 37)
 have hr1:=heap_alloc_new w (.cells #[.int .i64 h.k,.int .i64 h.op,.int .i64 h.v,.int .i64 h.ln,.string (st h.nm),.slice a ar.len c] 37)
 have HA1:=Xj (HA0.o.belowT hb1)
 have HOP:=Xj (And.intro ho0 ho1)
 clear ho0 ho1
 have HV:Xq (Yt h ar=opd x.1 (Yt x.1 x.2)++([32]++(sgn h.op++([32]++opd y.1 (Yt y.1 y.2))))):=Xj (by
  have h1:=Qd ar 0 x hx
  have h2:=Qd ar 1 y hy
  have h3:=Jy ar
  show Ql h (Yn ar)=_
  match hf:Yn ar,h1,h2,h3 with
  | [q,q2],h1,h2,_=>simp at h1 h2;subst h1 h2;unfold Ql;simp[hkk]
  | [],h1,_,_=>simp at h1
  | [_],_,h2,_=>simp at h2
  | _::_::_::_,_,_,h3=>simp[He] at h3)
 have HLN:=Xj He
 clear He
 have HKK:=Xj hkk
 clear hkk
 go_enter Tryz.func17,Tryz.ntmps17
 go_upto_region 1 with fail
 obtain⟨w1,hw1⟩:∃ W,w.alloc (.cells #[.int .i64 h.k,.int .i64 h.op,.int .i64 h.v,.int .i64 h.ln,.string (st h.nm),.slice a ar.len c] 37)=W:=⟨_,rfl⟩
 obtain⟨g,hg⟩:∃ x,w.heap.size=x:=⟨_,rfl⟩
 rw[hw1] at hb1 hr1 HA1 ⊢
 rw[hg] at hr1
 (try rw[hg])
 have HB1:=Xj hb1
 obtain⟨p0,p1,p2,p3,p4,p5⟩:=Yu hr1
 clear hw1 hb1 hr1 hg
 have hk:=HKK.o
 rw[hk] at p0
 clear hk
 obtain⟨b,off,asl,csl,rfl,hbl,HX,k0,k1,k2,k3,k4,k5⟩:=HA1.o.elem hx
 obtain⟨b',off',asl2,csl2,e',hhf,HY,j0,j1,j2,j3,j4,j5⟩:=HA1.o.elem hy
 injection e' with e'
 injection e' with e1 e2
 subst e1 e2
 rw[Nat.zero_mul,Nat.add_zero] at k0 k1 k2 k3 k4 k5
 rw[Nat.one_mul] at j0 j1 j2 j3 j4 j5
 rw[HLN.o] at p5 hlc
 (try rw[HLN.o])
 have HEE:=Xj hE
 have hol:=Zl x.1 (Yt x.1 x.2)
 have HOL:=Xj hl
 clear hE
 have HEF:=Xj hE2
 have hol2:=Zl y.1 (Yt y.1 y.2)
 have hub:=Xj hl2
 clear hE2 hy
 have hsl:=Ht h.op
 clear hx
 go_upto_region 21 with fail
 refine Xn (by kernel_rfl) (by kernel_rfl) ?_
 have g0:∀ x:Xy w1,x.val.cell? ⟨g,1,none⟩=some (.int .i64 h.op):=λ x=>x.cell p1
 have g1:∀ x:Xy w1,x.val.cell? ⟨g,5,none⟩=some (.slice (some ⟨b,off,none⟩) 2 c):=λ x=>x.cell p5
 have m0:∀ s:Xy w1,s.val.cell? ⟨b,off,none⟩=some (.int .i64 x.1.k):=λ s=>s.cell k0
 have m1:∀ s:Xy w1,s.val.cell? ⟨b,off+1,none⟩=some (.int .i64 x.1.op):=λ s=>s.cell k1
 have m2:∀ s:Xy w1,s.val.cell? ⟨b,off+2,none⟩=some (.int .i64 x.1.v):=λ s=>s.cell k2
 have m3:∀ s:Xy w1,s.val.cell? ⟨b,off+3,none⟩=some (.int .i64 x.1.ln):=λ s=>s.cell k3
 have m4:∀ s:Xy w1,s.val.cell? ⟨b,off+4,none⟩=some (.string (st x.1.nm)):=λ s=>s.cell k4
 have m5:∀ s:Xy w1,s.val.cell? ⟨b,off+5,none⟩=some (.slice asl x.2.len csl):=λ s=>s.cell k5
 have n0:∀ s:Xy w1,s.val.cell? ⟨b,off+6,none⟩=some (.int .i64 y.1.k):=λ s=>s.cell j0
 have n1:∀ s:Xy w1,s.val.cell? ⟨b,off+6+1,none⟩=some (.int .i64 y.1.op):=λ s=>s.cell j1
 have n2:∀ s:Xy w1,s.val.cell? ⟨b,off+6+2,none⟩=some (.int .i64 y.1.v):=λ s=>s.cell j2
 have n3:∀ s:Xy w1,s.val.cell? ⟨b,off+6+3,none⟩=some (.int .i64 y.1.ln):=λ s=>s.cell j3
 have n4:∀ s:Xy w1,s.val.cell? ⟨b,off+6+4,none⟩=some (.string (st y.1.nm)):=λ s=>s.cell j4
 have n5:∀ s:Xy w1,s.val.cell? ⟨b,off+6+5,none⟩=some (.slice asl2 y.2.len csl2):=λ s=>s.cell j5
 have hst:=Qq
 go_big_quiet_step ((go_at_call 53;exact Xd _ (Yp x.1 x.2 HEE.o HOL.o _ _ (HX.o.belowT (Xy.property _)))))
 go_big_quiet_step ((go_at_call 53;exact Xd _ (Yp x.1 x.2 HEE.o HOL.o _ _ (HX.o.belowT (Xy.property _)))))
 go_big_quiet_step ((go_at_call 53;exact Xd _ (Yp x.1 x.2 HEE.o HOL.o _ _ (HX.o.belowT (Xy.property _)))))
 go_big_quiet_step ((go_at_call 53;exact Xd _ (Yp x.1 x.2 HEE.o HOL.o _ _ (HX.o.belowT (Xy.property _)))))
 go_big_quiet_step ((go_at_call 53;exact Xd _ (Yp x.1 x.2 HEE.o HOL.o _ _ (HX.o.belowT (Xy.property _)))))
 repeat (go_big_quiet_step ((first|(go_at_call 53;exact Xd _ (Yp y.1 y.2 HEF.o hub.o _ _ (HY.o.belowT (Xy.property _))))|(go_at_call 52;exact Xd _ (Dt h.op HOP.o.1 HOP.o.2 _)))))
 refine wpQuiet_nil ?_
 intro w2 hb2
 clear g0 g1 m0 m1 m2 m3 m4 m5 n0 n1 n2 n3 n4 n5
 go_wp2_with fail
 refine bodyPost_ret (v:=.string (st (opd x.1 (Yt x.1 x.2)++32::(sgn h.op++32::opd y.1 (Yt y.1 y.2))))) (by simp[results,Tryz.results17,go_sem]) rfl ?_
 exact⟨(by rw[HV.o];try simp[List.append_assoc]),HB1.o.trans (hb2.mono HB1.o.size)⟩
theorem Fg (h:Hd) (ar:Fo) (hkk:h.k=7) (x y:Hd×Fo) (hx:ar.get 0=some x) (hy:ar.get 1=some y) (He:ar.len=2) (hE:EOK x.1 x.2) (hl:(Yt x.1 x.2).length<=1000000) (hE2:EOK y.1 y.2) (hl2:(Yt y.1 y.2).length<=1000000):EOK h ar:=by
 intro w sl ha
 have HA0:=Xj ha
 obtain⟨a,c,rws,rfl,hlc,hcm,-,-,-⟩:=ha
 have hb1:=Xw w (.cells #[.int .i64 h.k,.int .i64 h.op,.int .i64 h.v,.int .i64 h.ln,.string (st h.nm),.slice a ar.len c] 37)
 have hr1:=heap_alloc_new w (.cells #[.int .i64 h.k,.int .i64 h.op,.int .i64 h.v,.int .i64 h.ln,.string (st h.nm),.slice a ar.len c] 37)
 have HA1:=Xj (HA0.o.belowT hb1)
 have HV:Xq (Yt h ar=opd x.1 (Yt x.1 x.2)++([32,38,38,32]++opd y.1 (Yt y.1 y.2))):=Xj (by
  have h1:=Qd ar 0 x hx
  have h2:=Qd ar 1 y hy
  have h3:=Jy ar
  show Ql h (Yn ar)=_
  match hf:Yn ar,h1,h2,h3 with
  | [q,q2],h1,h2,_=>simp at h1 h2;subst h1 h2;unfold Ql;simp[hkk]
  | [],h1,_,_=>simp at h1
  | [_],_,h2,_=>simp at h2
  | _::_::_::_,_,_,h3=>simp[He] at h3)
 have HLN:=Xj He
 clear He
 have HKK:=Xj hkk
 clear hkk
 go_enter Tryz.func17,Tryz.ntmps17
 go_upto_region 1 with fail
 obtain⟨w1,hw1⟩:∃ W,w.alloc (.cells #[.int .i64 h.k,.int .i64 h.op,.int .i64 h.v,.int .i64 h.ln,.string (st h.nm),.slice a ar.len c] 37)=W:=⟨_,rfl⟩
 obtain⟨g,hg⟩:∃ x,w.heap.size=x:=⟨_,rfl⟩
 rw[hw1] at hb1 hr1 HA1 ⊢
 rw[hg] at hr1
 (try rw[hg])
 have HB1:=Xj hb1
 obtain⟨p0,p1,p2,p3,p4,p5⟩:=Yu hr1
 clear hw1 hb1 hr1 hg
 have hk:=HKK.o
 rw[hk] at p0
 clear hk
 obtain⟨b,off,asl,csl,rfl,hbl,HX,k0,k1,k2,k3,k4,k5⟩:=HA1.o.elem hx
 obtain⟨b',off',asl2,csl2,e',hhf,HY,j0,j1,j2,j3,j4,j5⟩:=HA1.o.elem hy
 injection e' with e'
 injection e' with e1 e2
 subst e1 e2
 rw[Nat.zero_mul,Nat.add_zero] at k0 k1 k2 k3 k4 k5
 rw[Nat.one_mul] at j0 j1 j2 j3 j4 j5
 rw[HLN.o] at p5 hlc
 (try rw[HLN.o])
 have HEE:=Xj hE
 have hol:=Zl x.1 (Yt x.1 x.2)
 have HOL:=Xj hl
 clear hE
 have HEF:=Xj hE2
 have hol2:=Zl y.1 (Yt y.1 y.2)
 have hub:=Xj hl2
 clear hE2 hy
 clear hx
 go_upto_region 24 with fail
 refine Xn (by kernel_rfl) (by kernel_rfl) ?_
 have g1:∀ x:Xy w1,x.val.cell? ⟨g,5,none⟩=some (.slice (some ⟨b,off,none⟩) 2 c):=λ x=>x.cell p5
 have m0:∀ s:Xy w1,s.val.cell? ⟨b,off,none⟩=some (.int .i64 x.1.k):=λ s=>s.cell k0
 have m1:∀ s:Xy w1,s.val.cell? ⟨b,off+1,none⟩=some (.int .i64 x.1.op):=λ s=>s.cell k1
 have m2:∀ s:Xy w1,s.val.cell? ⟨b,off+2,none⟩=some (.int .i64 x.1.v):=λ s=>s.cell k2
 have m3:∀ s:Xy w1,s.val.cell? ⟨b,off+3,none⟩=some (.int .i64 x.1.ln):=λ s=>s.cell k3
 have m4:∀ s:Xy w1,s.val.cell? ⟨b,off+4,none⟩=some (.string (st x.1.nm)):=λ s=>s.cell k4
 have m5:∀ s:Xy w1,s.val.cell? ⟨b,off+5,none⟩=some (.slice asl x.2.len csl):=λ s=>s.cell k5
 have n0:∀ s:Xy w1,s.val.cell? ⟨b,off+6,none⟩=some (.int .i64 y.1.k):=λ s=>s.cell j0
 have n1:∀ s:Xy w1,s.val.cell? ⟨b,off+6+1,none⟩=some (.int .i64 y.1.op):=λ s=>s.cell j1
 have n2:∀ s:Xy w1,s.val.cell? ⟨b,off+6+2,none⟩=some (.int .i64 y.1.v):=λ s=>s.cell j2
 have n3:∀ s:Xy w1,s.val.cell? ⟨b,off+6+3,none⟩=some (.int .i64 y.1.ln):=λ s=>s.cell j3
 have n4:∀ s:Xy w1,s.val.cell? ⟨b,off+6+4,none⟩=some (.string (st y.1.nm)):=λ s=>s.cell j4
 have n5:∀ s:Xy w1,s.val.cell? ⟨b,off+6+5,none⟩=some (.slice asl2 y.2.len csl2):=λ s=>s.cell j5
 have hst:=Qq
 go_big_quiet_step ((go_at_call 53;exact Xd _ (Yp x.1 x.2 HEE.o HOL.o _ _ (HX.o.belowT (Xy.property _)))))
 go_big_quiet_step ((go_at_call 53;exact Xd _ (Yp x.1 x.2 HEE.o HOL.o _ _ (HX.o.belowT (Xy.property _)))))
 go_big_quiet_step ((go_at_call 53;exact Xd _ (Yp x.1 x.2 HEE.o HOL.o _ _ (HX.o.belowT (Xy.property _)))))
 go_big_quiet_step ((go_at_call 53;exact Xd _ (Yp x.1 x.2 HEE.o HOL.o _ _ (HX.o.belowT (Xy.property _)))))
 go_big_quiet_step ((go_at_call 53;exact Xd _ (Yp x.1 x.2 HEE.o HOL.o _ _ (HX.o.belowT (Xy.property _)))))
 repeat (go_big_quiet_step ((first|(go_at_call 53;exact Xd _ (Yp y.1 y.2 HEF.o hub.o _ _ (HY.o.belowT (Xy.property _)))))))
 refine wpQuiet_nil ?_
 intro w2 hb2
 clear g1 m0 m1 m2 m3 m4 m5 n0 n1 n2 n3 n4 n5
 go_wp2_with fail
 refine bodyPost_ret (v:=.string (st (opd x.1 (Yt x.1 x.2)++32::38::38::32::opd y.1 (Yt y.1 y.2)))) (by simp[results,Tryz.results17,go_sem]) rfl ?_
 exact⟨(by rw[HV.o];try simp[List.append_assoc]),HB1.o.trans (hb2.mono HB1.o.size)⟩
theorem Of (h:Hd) (ar:Fo) (hkk:h.k=8) (x y:Hd×Fo) (hx:ar.get 0=some x) (hy:ar.get 1=some y) (He:ar.len=2) (hE:EOK x.1 x.2) (hl:(Yt x.1 x.2).length<=1000000) (hE2:EOK y.1 y.2) (hl2:(Yt y.1 y.2).length<=1000000):EOK h ar:=by
 intro w sl ha
 have HA0:=Xj ha
 obtain⟨a,c,rws,rfl,hlc,hcm,-,-,-⟩:=ha
 have hb1:=Xw w (.cells #[.int .i64 h.k,.int .i64 h.op,.int .i64 h.v,.int .i64 h.ln,.string (st h.nm),.slice a ar.len c] 37)
 have hr1:=heap_alloc_new w (.cells #[.int .i64 h.k,.int .i64 h.op,.int .i64 h.v,.int .i64 h.ln,.string (st h.nm),.slice a ar.len c] 37)
 have HA1:=Xj (HA0.o.belowT hb1)
 have HV:Xq (Yt h ar=opd x.1 (Yt x.1 x.2)++([32,124,124,32]++opd y.1 (Yt y.1 y.2))):=Xj (by
  have h1:=Qd ar 0 x hx
  have h2:=Qd ar 1 y hy
  have h3:=Jy ar
  show Ql h (Yn ar)=_
  match hf:Yn ar,h1,h2,h3 with
  | [q,q2],h1,h2,_=>simp at h1 h2;subst h1 h2;unfold Ql;simp[hkk]
  | [],h1,_,_=>simp at h1
  | [_],_,h2,_=>simp at h2
  | _::_::_::_,_,_,h3=>simp[He] at h3)
 have HLN:=Xj He
 clear He
 have HKK:=Xj hkk
 clear hkk
 go_enter Tryz.func17,Tryz.ntmps17
 go_upto_region 1 with fail
 obtain⟨w1,hw1⟩:∃ W,w.alloc (.cells #[.int .i64 h.k,.int .i64 h.op,.int .i64 h.v,.int .i64 h.ln,.string (st h.nm),.slice a ar.len c] 37)=W:=⟨_,rfl⟩
 obtain⟨g,hg⟩:∃ x,w.heap.size=x:=⟨_,rfl⟩
 rw[hw1] at hb1 hr1 HA1 ⊢
 rw[hg] at hr1
 (try rw[hg])
 have HB1:=Xj hb1
 obtain⟨p0,p1,p2,p3,p4,p5⟩:=Yu hr1
 clear hw1 hb1 hr1 hg
 have hk:=HKK.o
 rw[hk] at p0
 clear hk
 obtain⟨b,off,asl,csl,rfl,hbl,HX,k0,k1,k2,k3,k4,k5⟩:=HA1.o.elem hx
 obtain⟨b',off',asl2,csl2,e',hhf,HY,j0,j1,j2,j3,j4,j5⟩:=HA1.o.elem hy
 injection e' with e'
 injection e' with e1 e2
 subst e1 e2
 rw[Nat.zero_mul,Nat.add_zero] at k0 k1 k2 k3 k4 k5
 rw[Nat.one_mul] at j0 j1 j2 j3 j4 j5
 rw[HLN.o] at p5 hlc
 (try rw[HLN.o])
 have HEE:=Xj hE
 have hol:=Zl x.1 (Yt x.1 x.2)
 have HOL:=Xj hl
 clear hE
 have HEF:=Xj hE2
 have hol2:=Zl y.1 (Yt y.1 y.2)
 have hub:=Xj hl2
 clear hE2 hy
 clear hx
 go_upto_region 27 with fail
 refine Xn (by kernel_rfl) (by kernel_rfl) ?_
 have g1:∀ x:Xy w1,x.val.cell? ⟨g,5,none⟩=some (.slice (some ⟨b,off,none⟩) 2 c):=λ x=>x.cell p5
 have m0:∀ s:Xy w1,s.val.cell? ⟨b,off,none⟩=some (.int .i64 x.1.k):=λ s=>s.cell k0
 have m1:∀ s:Xy w1,s.val.cell? ⟨b,off+1,none⟩=some (.int .i64 x.1.op):=λ s=>s.cell k1
 have m2:∀ s:Xy w1,s.val.cell? ⟨b,off+2,none⟩=some (.int .i64 x.1.v):=λ s=>s.cell k2
 have m3:∀ s:Xy w1,s.val.cell? ⟨b,off+3,none⟩=some (.int .i64 x.1.ln):=λ s=>s.cell k3
 have m4:∀ s:Xy w1,s.val.cell? ⟨b,off+4,none⟩=some (.string (st x.1.nm)):=λ s=>s.cell k4
 have m5:∀ s:Xy w1,s.val.cell? ⟨b,off+5,none⟩=some (.slice asl x.2.len csl):=λ s=>s.cell k5
 have n0:∀ s:Xy w1,s.val.cell? ⟨b,off+6,none⟩=some (.int .i64 y.1.k):=λ s=>s.cell j0
 have n1:∀ s:Xy w1,s.val.cell? ⟨b,off+6+1,none⟩=some (.int .i64 y.1.op):=λ s=>s.cell j1
 have n2:∀ s:Xy w1,s.val.cell? ⟨b,off+6+2,none⟩=some (.int .i64 y.1.v):=λ s=>s.cell j2
 have n3:∀ s:Xy w1,s.val.cell? ⟨b,off+6+3,none⟩=some (.int .i64 y.1.ln):=λ s=>s.cell j3
 have n4:∀ s:Xy w1,s.val.cell? ⟨b,off+6+4,none⟩=some (.string (st y.1.nm)):=λ s=>s.cell j4
 have n5:∀ s:Xy w1,s.val.cell? ⟨b,off+6+5,none⟩=some (.slice asl2 y.2.len csl2):=λ s=>s.cell j5
 have hst:=Qq
 go_big_quiet_step ((go_at_call 53;exact Xd _ (Yp x.1 x.2 HEE.o HOL.o _ _ (HX.o.belowT (Xy.property _)))))
 go_big_quiet_step ((go_at_call 53;exact Xd _ (Yp x.1 x.2 HEE.o HOL.o _ _ (HX.o.belowT (Xy.property _)))))
 go_big_quiet_step ((go_at_call 53;exact Xd _ (Yp x.1 x.2 HEE.o HOL.o _ _ (HX.o.belowT (Xy.property _)))))
 go_big_quiet_step ((go_at_call 53;exact Xd _ (Yp x.1 x.2 HEE.o HOL.o _ _ (HX.o.belowT (Xy.property _)))))
 go_big_quiet_step ((go_at_call 53;exact Xd _ (Yp x.1 x.2 HEE.o HOL.o _ _ (HX.o.belowT (Xy.property _)))))
 repeat (go_big_quiet_step ((first|(go_at_call 53;exact Xd _ (Yp y.1 y.2 HEF.o hub.o _ _ (HY.o.belowT (Xy.property _)))))))
 refine wpQuiet_nil ?_
 intro w2 hb2
 clear g1 m0 m1 m2 m3 m4 m5 n0 n1 n2 n3 n4 n5
 go_wp2_with fail
 refine bodyPost_ret (v:=.string (st (opd x.1 (Yt x.1 x.2)++32::124::124::32::opd y.1 (Yt y.1 y.2)))) (by simp[results,Tryz.results17,go_sem]) rfl ?_
 exact⟨(by rw[HV.o];try simp[List.append_assoc]),HB1.o.trans (hb2.mono HB1.o.size)⟩
theorem Ty (ar:Fo) (hE:∀ j x,ar.get j=some x->EOK x.1 x.2) (hl:tot (Yn ar)<=1000000) (hn:ar.len<=1000) (w:World) (a:Option Addr) (c:Nat) (h:Xk w (λ _=>True) ar (.slice a ar.len c)) :
  Calls Tryz.prog 54 #[.slice a ar.len c] w λ e w'=>e=.returned (.string (st (Jl ((Yn ar).map (·.2)))))/\Below w.heap.size w w':=by
 obtain⟨a',c',rws,e,_,_,_,h4,h5⟩:=h
 injection e with e1 e2 e3
 subst e1 e3
 exact Dz ar hE hl hn w a c rws h4 h5
theorem Hu (ar:Fo):(Jl ((Yn ar).map (·.2))).length<=tot (Yn ar)+2*ar.len+2:=by
 have:=Wf (Yn ar)
 rw[Jy] at this
 simp[Jl,Km];omega
theorem Ab (h:Hd) (ar:Fo) (hkk:h.k=9) (hn:h.nm.length<=4) (hE:∀ j x,ar.get j=some x->EOK x.1 x.2) (hl:tot (Yn ar)<=1000000) (hn3:ar.len<=3):EOK h ar:=by
 intro w sl ha
 have HA0:=Xj ha
 obtain⟨a,c,rws,rfl,hlc,hcm,-,-,-⟩:=ha
 have hb1:=Xw w (.cells #[.int .i64 h.k,.int .i64 h.op,.int .i64 h.v,.int .i64 h.ln,.string (st h.nm),.slice a ar.len c] 37)
 have hr1:=heap_alloc_new w (.cells #[.int .i64 h.k,.int .i64 h.op,.int .i64 h.v,.int .i64 h.ln,.string (st h.nm),.slice a ar.len c] 37)
 have HA1:=Xj (HA0.o.belowT hb1)
 have HV:Xq (Yt h ar=h.nm++Jl ((Yn ar).map (·.2))):=Xj (by show Ql h (Yn ar)=_;unfold Ql;simp[hkk])
 have HKK:=Xj hkk
 clear hkk
 go_enter Tryz.func17,Tryz.ntmps17
 go_upto_region 1 with fail
 obtain⟨w1,hw1⟩:∃ W,w.alloc (.cells #[.int .i64 h.k,.int .i64 h.op,.int .i64 h.v,.int .i64 h.ln,.string (st h.nm),.slice a ar.len c] 37)=W:=⟨_,rfl⟩
 obtain⟨g,hg⟩:∃ x,w.heap.size=x:=⟨_,rfl⟩
 rw[hw1] at hb1 hr1 HA1 ⊢
 rw[hg] at hr1
 (try rw[hg])
 have HB1:=Xj hb1
 obtain⟨p0,p1,p2,p3,p4,p5⟩:=Yu hr1
 clear hw1 hb1 hr1 hg
 have hk:=HKK.o
 rw[hk] at p0
 clear hk
 have HLA:=Xj (Ty ar hE hl (by omega))
 have hbl:=Hu ar
 clear hE
 go_upto_region 29 with fail
 refine Xn (by kernel_rfl) (by kernel_rfl) ?_
 have g0:∀ s:Xy w1,s.val.cell? ⟨g,4,none⟩=some (.string (st h.nm)):=λ s=>s.cell p4
 have g1:∀ s:Xy w1,s.val.cell? ⟨g,5,none⟩=some (.slice a ar.len c):=λ s=>s.cell p5
 have hst:=Qq
 repeat (go_big_quiet_step ((first|(go_at_call 54;exact Xd _ (HLA.o _ _ _ (HA1.o.belowT (Xy.property _)))))))
 refine wpQuiet_nil ?_
 intro w2 hb2
 clear g0 g1
 go_wp2_with fail
 refine bodyPost_ret (v:=.string (st (h.nm++Jl ((Yn ar).map (·.2))))) (by simp[results,Tryz.results17,go_sem]) rfl ?_
 exact⟨by rw[HV.o],HB1.o.trans (hb2.mono HB1.o.size)⟩
theorem Tw (hd:Hd) (bs r:Fo) (hE:∀ j x,r.get j=some x->EOK x.1 x.2) (hl:tot (Yn r)<=1000000) (hn:r.len<=1000) (w:World) (b off c c2:Nat) (h:Xk w (λ _=>True) (.cons hd bs r) (.slice (some ⟨b,off,none⟩) (r.len+1) c)) :
  Calls Tryz.prog 54 #[.slice (some ⟨b,off+6,none⟩) r.len c2] w λ e w'=>e=.returned (.string (st (Jl ((Yn r).map (·.2)))))/\Below w.heap.size w w':=by
 obtain⟨a',c',rws,e,_,_,_,h4,h5⟩:=h
 injection e with e1 e2 e3
 subst e1 e3
 obtain⟨a1,c1,rw1,cs',rfl,_,_,_,_,_,h6⟩:=h5
 refine Dz r hE hl hn w (some ⟨b,off+6,none⟩) c2 cs' (λ hne=>?_) h6
 obtain⟨b',off',e,_,hb,hc⟩:=h4 (by simp)
 injection e with e
 injection e with e1 e2
 subst e1 e2
 refine⟨b,off+6,rfl,trivial,hb,λ j u hj=>?_⟩
 have:=hc (6+j) u (by
  rw[List.getElem?_append_right (by show 6<=_;omega)]
  show cs'[6+j-6]?=_
  rw[Nat.add_sub_cancel_left];exact hj)
 rw[Nat.add_assoc];exact this
theorem Ry (h:Hd) (ar:Fo) (hkk:h.k=10) (x:Hd×Fo) (r:Fo) (har:ar=.cons x.1 x.2 r) (h13:x.1.k≠13/\x.1.k≠2/\x.1.k≠3) (hE:EOK x.1 x.2) (hEr:∀ j y,r.get j=some y->EOK y.1 y.2) (hl:(Yt x.1 x.2).length<=1000000) (hlr:tot (Yn r)<=1000000) (hn3:r.len<=3):EOK h ar:=by
 intro w sl ha
 have HA0:=Xj ha
 obtain⟨a,c,rws,rfl,hlc,hcm,-,-,-⟩:=ha
 have hb1:=Xw w (.cells #[.int .i64 h.k,.int .i64 h.op,.int .i64 h.v,.int .i64 h.ln,.string (st h.nm),.slice a ar.len c] 37)
 have hr1:=heap_alloc_new w (.cells #[.int .i64 h.k,.int .i64 h.op,.int .i64 h.v,.int .i64 h.ln,.string (st h.nm),.slice a ar.len c] 37)
 have HA1:=Xj (HA0.o.belowT hb1)
 have HV:Xq (Yt h ar=opd x.1 (Yt x.1 x.2)++Jl ((Yn r).map (·.2))):=Xj (by
  subst har
  show Ql h ((x.1,Ql x.1 (Yn x.2))::Yn r)=opd x.1 (Ql x.1 (Yn x.2))++Jl ((Yn r).map (·.2))
  generalize Ql x.1 (Yn x.2)=t
  generalize Yn r=os
  unfold Ql
  simp[hkk,h13.1,h13.2.1,h13.2.2])
 have He:ar.len=r.len+1:=by subst har;rfl
 have HLN:=Xj He
 have hx:ar.get 0=some x:=by subst har;rfl
 have HAR:=Xj har
 clear har He
 have HKK:=Xj hkk
 clear hkk
 go_enter Tryz.func17,Tryz.ntmps17
 go_upto_region 1 with fail
 obtain⟨w1,hw1⟩:∃ W,w.alloc (.cells #[.int .i64 h.k,.int .i64 h.op,.int .i64 h.v,.int .i64 h.ln,.string (st h.nm),.slice a ar.len c] 37)=W:=⟨_,rfl⟩
 obtain⟨g,hg⟩:∃ x,w.heap.size=x:=⟨_,rfl⟩
 rw[hw1] at hb1 hr1 HA1 ⊢
 rw[hg] at hr1
 (try rw[hg])
 have HB1:=Xj hb1
 obtain⟨p0,p1,p2,p3,p4,p5⟩:=Yu hr1
 clear hw1 hb1 hr1 hg
 have hk:=HKK.o
 rw[hk] at p0
 clear hk
 obtain⟨b,off,asl,csl,rfl,hbl,HX,k0,k1,k2,k3,k4,k5⟩:=HA1.o.elem hx
 rw[Nat.zero_mul,Nat.add_zero] at k0 k1 k2 k3 k4 k5
 rw[HLN.o] at p5 hlc
 (try rw[HLN.o])
 have HLT:Xq (∀ W,Below w1.heap.size w1 W->∀ c2,Calls Tryz.prog 54 #[.slice (some ⟨b,off+6,none⟩) r.len c2] W λ e w'=>e=.returned (.string (st (Jl ((Yn r).map (·.2)))))/\Below W.heap.size W w'):=Xj (λ W hW c2=>Tw x.1 x.2 r hEr hlr (by omega) W b off c c2 (by
  have:=HA1.o.belowT hW
  rw[HLN.o,HAR.o] at this
  exact this))
 have hhf:=Hu r
 have hol:=Zl x.1 (Yt x.1 x.2)
 have HOP:=Xj (Yp x.1 x.2 hE hl)
 have d13:(x.1.k==13)=false:=by rw[beq_eq_false_iff_ne];exact h13.1
 have d2:(x.1.k==2)=false:=by rw[beq_eq_false_iff_ne];exact h13.2.1
 have d3:(x.1.k==3)=false:=by rw[beq_eq_false_iff_ne];exact h13.2.2
 clear hE hEr hx h13
 have hcm2:c<=9223372036854775807:=by unfold maxLen at hcm;omega
 have hbq:=Xw w1 (.cells #[.int .i64 x.1.k,.int .i64 x.1.op,.int .i64 x.1.v,.int .i64 x.1.ln,.string (st x.1.nm),.slice asl x.2.len csl] 37)
 have hrq:=heap_alloc_new w1 (.cells #[.int .i64 x.1.k,.int .i64 x.1.op,.int .i64 x.1.v,.int .i64 x.1.ln,.string (st x.1.nm),.slice asl x.2.len csl] 37)
 have HP5:=Xj p5
 go_upto_region 33 with fail
 obtain⟨wq,hwq⟩:∃ W,w1.alloc (.cells #[.int .i64 x.1.k,.int .i64 x.1.op,.int .i64 x.1.v,.int .i64 x.1.ln,.string (st x.1.nm),.slice asl x.2.len csl] 37)=W:=⟨_,rfl⟩
 obtain⟨gq,hgq⟩:∃ y,w1.heap.size=y:=⟨_,rfl⟩
 rw[hwq] at hbq hrq ⊢
 rw[hgq] at hrq
 (try rw[hgq])
 have HBQ:=Xj hbq
 have HRQ:=Xj hrq
 obtain⟨s0,s1,s2,s3,s4,s5⟩:=Yu hrq
 clear hwq hgq hbq hrq k0 k1 k2 k3 k4 k5 p0 p1 p2 p3 p4 p5
 go_wp2_with fail
 refine(HOP.o _ _ (HX.o.belowT HBQ.o)).mono ?_
 rintro e wr ⟨rfl,hbr⟩
 have HBR:=Xj (HBQ.o.trans (hbr.mono HBQ.o.size))
 have p5:=(HBR.o.cell (p:=⟨g,5,none⟩) (block_lt_of_cell HP5.o)).trans HP5.o
 obtain⟨s0,s1,s2,s3,s4,s5⟩:=Yu ((hbr.block gq (Xv HRQ.o)).trans HRQ.o)
 clear hbr
 have hst:=Qq
 by_cases hc1:c=1
 ·subst hc1
  have hr0:r.len=0:=by omega
  have HL0:Xq (∀ W a2 c2,Calls Tryz.prog 54 #[.slice a2 0 c2] W λ e w'=>e=.returned (.string (st (Jl ((Yn r).map (·.2)))))/\Below W.heap.size W w'):=Xj (λ W a2 c2=>by
   cases r with
   | nil=>exact Dz .nil (λ j y hy=>nomatch hy) (by simp[Yn,tot]) (by simp[Fo.len]) W a2 c2 [] (λ hne=>absurd rfl hne) rfl
   | cons _ _ _=>simp[Fo.len] at hr0)
  clear hr0
  go_wp2_with fail
  refine(HL0.o _ _ _).mono ?_
  rintro e wz ⟨rfl,hbz⟩
  have HBZ:=Xj (HB1.o.trans ((HBR.o.trans (hbz.mono HBR.o.size)).mono HB1.o.size))
  clear hbz
  go_wp2_with fail
  refine bodyPost_ret (v:=.string (st (opd x.1 (Yt x.1 x.2)++Jl ((Yn r).map (·.2))))) (by simp[results,Tryz.results17,go_sem]) rfl ?_
  exact⟨by rw[HV.o],HBZ.o⟩
 have hc2:1<c:=by omega
 go_wp2_with fail
 refine(HLT.o _ HBR.o _).mono ?_
 rintro e wz ⟨rfl,hbz⟩
 have HBZ:=Xj (HB1.o.trans ((HBR.o.trans (hbz.mono HBR.o.size)).mono HB1.o.size))
 clear hbz
 go_wp2_with fail
 refine bodyPost_ret (v:=.string (st (opd x.1 (Yt x.1 x.2)++Jl ((Yn r).map (·.2))))) (by simp[results,Tryz.results17,go_sem]) rfl ?_
 exact⟨by rw[HV.o],HBZ.o⟩
theorem okH.not23 {h:Hd} {ar:Fo} (k:okH h ar):h.k≠2/\h.k≠3:=by
 rcases k with⟨_,_,k⟩|⟨_,k,_⟩|⟨_,_,k⟩
 ·rcases k with⟨k,_⟩|⟨k,_⟩|⟨k,_⟩|⟨k,_⟩|⟨k,_⟩|⟨k,_⟩|⟨k,_⟩<;>omega
 ·omega
 rcases k with⟨k,_⟩|⟨k,_⟩<;>omega
theorem okN.len {nm:Bt} (h:okN nm):nm.length<=4:=by
 obtain⟨_,_,_,_,_,_,hl⟩:=h
 exact hl
theorem Fo.get_wf {F:Fo} (hw:F.wf) {j:Nat} {x:Hd×Fo} (hj:F.get j=some x):okH x.1 x.2/\x.2.wf/\own x.1 x.2.len+x.2.cst<=F.cst:=by
 induction F generalizing j with
 | nil=>cases hj
 | cons h ar r _ ih =>
  cases j with
  | zero =>
   have e:(h,ar)=x:=by injection hj
   subst e
   exact⟨hw.1,hw.2.2.1,by show own h ar.len+ar.cst<=own h ar.len+ar.cst+r.cst;omega⟩
  | succ j =>
   obtain⟨h1,h2,h3⟩:=ih hw.2.2.2 hj
   exact⟨h1,h2,by show _<=own h ar.len+ar.cst+r.cst;omega⟩
theorem Fo.get_len {F:Fo} {j:Nat} {x:Hd×Fo} (hw:F.wf) (hc:F.cst<=1000000) (hj:F.get j=some x):(Yt x.1 x.2).length<=1000000:=by
 obtain⟨h1,h2,h3⟩:=Fo.get_wf hw hj
 exact Nat.le_trans (Cu x.1 x.2 h1 h2) (by omega)
theorem Od (h:Hd) (ar:Fo) (hok:okH h ar) (hw:ar.wf) (hc:ar.cst<=1000000) (hE:∀ j x,ar.get j=some x->EOK x.1 x.2):EOK h ar:=by
 have ht:=Nat.le_trans (Vd ar hw) hc
 rcases hok with⟨_,_,k⟩|⟨_,k,_,k0,k1,_⟩|⟨_,_,k⟩
 ·rcases k with⟨k,hn,_⟩|⟨k,_⟩|⟨k,hn,_⟩|⟨k,hn,hl⟩|⟨k,_,hl⟩|⟨k,hn,hl⟩|⟨k,_,g,bs,r,rfl,hg,hr⟩
  ·exact Ay h ar k
  ·exact Ak h ar k
  ·exact Au h ar k hn.len
  ·obtain⟨x,hx⟩:=Fo.get_lt (F:=ar) (i:=0) (by omega)
   exact Dl h ar k hn.len x hx hl (hE 0 x hx) (Fo.get_len hw hc hx)
  ·obtain⟨x,hx⟩:=Fo.get_lt (F:=ar) (i:=0) (by omega)
   obtain⟨y,hy⟩:=Fo.get_lt (F:=ar) (i:=1) (by omega)
   rcases k with k|k
   ·exact Fg h ar k x y hx hy hl (hE 0 x hx) (Fo.get_len hw hc hx) (hE 1 y hy) (Fo.get_len hw hc hy)
   exact Of h ar k x y hx hy hl (hE 0 x hx) (Fo.get_len hw hc hx) (hE 1 y hy) (Fo.get_len hw hc hy)
  ·exact Ab h ar k hn.len hE ht (by omega)
  have h23:=hw.1.not23
  refine Ry h _ k (g,bs) r rfl ⟨hg,h23.1,h23.2⟩ (hE 0 _ rfl) (λ j y hy=>hE (j+1) y hy) (Fo.get_len hw hc (j:=0) rfl) ?_ (by omega)
  have:=Vd r hw.2.2.2
  have h2:r.cst<=(Fo.cons g bs r).cst:=by show _<=own g bs.len+bs.cst+r.cst;omega
  omega
 ·exact Mm h ar k k0 k1
 rcases k with⟨k,o1,o2,hl⟩|⟨k,o1,o2,hl⟩
 ·obtain⟨x,hx⟩:=Fo.get_lt (F:=ar) (i:=0) (by omega)
  exact Ru h ar k (by omega) (by omega) x hx hl (hE 0 x hx) (Fo.get_len hw hc hx)
 obtain⟨x,hx⟩:=Fo.get_lt (F:=ar) (i:=0) (by omega)
 obtain⟨y,hy⟩:=Fo.get_lt (F:=ar) (i:=1) (by omega)
 exact Mc h ar k (by omega) (by omega) x y hx hy hl (hE 0 x hx) (Fo.get_len hw hc hx) (hE 1 y hy) (Fo.get_len hw hc hy)
theorem Oh (F:Fo) (hw:F.wf) (hc:F.cst<=1000000):∀ j x,F.get j=some x->EOK x.1 x.2:=by
 induction F with
 | nil=>intro j x hx;cases hx
 | cons h ar r ih1 ih2 =>
  have hcs:own h ar.len+ar.cst+r.cst<=1000000:=hc
  intro j x hx
  cases j with
  | zero =>
   have e:(h,ar)=x:=by injection hx
   subst e
   exact Od h ar hw.1 hw.2.2.1 (by omega) (ih1 hw.2.2.1 (by omega))
  | succ j=>exact ih2 hw.2.2.2 (by omega) j x hx
def Kb (n:Nat):Bt:=List.replicate n 9
def Jb (xs:Fo) (i:Nat):Bt:=match (Yn xs)[i]? with|some a=>a.2|none=>[]
def Qy:Sf->Nat->Bt
 | .nil,_=>[]
 | .cons k _ nm xs th el r,n =>
  Kb n++((
   if k=1 then [118,97,114,32]++(nm++([32,61,32]++(Jb xs 0++[59])))
   else if k=2 then nm++([32,61,32]++(Jb xs 0++[59]))
   else if k=3 then nm++([91]++(Jb xs 0++([93,32,61,32]++(Jb xs 1++[59]))))
   else if k=6 then [114,101,116,117,114,110,32]++(Jb xs 0++[59])
   else if k=7 then [112,114,105,110,116,32]++(Jb xs 0++[59])
   else if k=8 then [99,97,108,108,32]++(Jb xs 0++[59])
   else if k=5 then [119,104,105,108,101,32]++(Jb xs 0++([32,123,10]++(Qy th (n+1)++(Kb n++[125]))))
   else if k=4 then [105,102,32]++(Jb xs 0++([32,123,10]++(Qy th (n+1)++(Kb n++([125] ++
    (if el.len=0 then [] else [32,101,108,115,101,32,123,10]++(Qy el (n+1)++(Kb n++[125]))))))))
   else [])++([10]++Qy r n))
def Ws (F:Fn):Bt:=[102,117,110,99,32]++(F.nm++([40]++(Qb F.ps++([41,32,123,10]++(Qy F.bd 1++[125,10])))))
def Wr (x:Bt×Int):Bt:=[103,108,111,98,97,108,32]++(x.1++((if 0<x.2 then [91]++(Lib.decDigits x.2.toNat++[93]) else [])++[59,10]))
def Nn (gs:List (Bt×Int)) (Fs:List Fn):Bt:=gs.flatMap Wr++Fs.flatMap Ws
theorem Qp (k ln:Int) (nm:Bt) (xs:Fo) (at_ ae:Option Addr) (nt ct ne ce:Nat) (i:Nat) (hi:i<xs.len) (hw:xs.wf) (hc:xs.cst<=1000000) (w:World) (a:Option Addr) (c:Nat) (hx:Xk w (λ _=>True) xs (.slice a xs.len c)) :
  Calls Tryz.prog 81 #[stv k ln nm (.slice a xs.len c) (.slice at_ nt ct) (.slice ae ne ce),.int .i64 (i:Int)] w λ e w'=>e=.returned (.string (st (Jb xs i)))/\Below w.heap.size w w':=by
 obtain⟨x,hg⟩:=Fo.get_lt hi
 have HV:Xq (Jb xs i=Yt x.1 x.2):=Xj (by unfold Jb;rw[Qd xs i x hg])
 have HE:=Xj (Oh xs hw hc i x hg)
 have hcm:xs.len<=c/\c<=9223372036854775807:=by
  obtain⟨_,_,_,e,h1,h2,_⟩:=hx
  injection e with e1 e2 e3
  subst e3
  unfold maxLen at h2
  omega
 obtain⟨b,off,asl,csl,rfl,hbl,HX,k0,k1,k2,k3,k4,k5⟩:=hx.elem hg
 obtain⟨n,hn⟩:∃ n,xs.len=n:=⟨_,rfl⟩
 rw[hn] at hi hcm
 have hb1:=Xw w (.cells #[.int .i64 k,.int .i64 ln,.string (st nm),.slice (some ⟨b,off,none⟩) n c,.slice at_ nt ct,.slice ae ne ce] 110)
 have m0:=(hb1.cell (p:=⟨b,off+i*6,none⟩) hbl).trans k0
 have m1:=(hb1.cell (p:=⟨b,off+i*6+1,none⟩) hbl).trans k1
 have m2:=(hb1.cell (p:=⟨b,off+i*6+2,none⟩) hbl).trans k2
 have m3:=(hb1.cell (p:=⟨b,off+i*6+3,none⟩) hbl).trans k3
 have m4:=(hb1.cell (p:=⟨b,off+i*6+4,none⟩) hbl).trans k4
 have m5:=(hb1.cell (p:=⟨b,off+i*6+5,none⟩) hbl).trans k5
 have HB:=Xj hb1
 have HXB:=Xj (HX.o.belowT hb1)
 rw[hn]
 clear hx hg hw hc hn hb1 k0 k1 k2 k3 k4 k5
 go_enter Tryz.func81,Tryz.ntmps81
 go_wp2_with fail
 refine(HE.o _ _ HXB.o).mono ?_
 rintro e w2 ⟨rfl,hb2⟩
 go_wp2_with fail
 refine bodyPost_ret (v:=.string (st (Yt x.1 x.2))) (by simp[results,Tryz.results81,go_sem]) rfl ?_
 exact⟨by rw[HV.o],HB.o.trans (hb2.mono HB.o.size)⟩
theorem Ds (n:Nat):(Kb n).length=n:=List.length_replicate
theorem Vy (xs:Fo) (hw:xs.wf) (i:Nat):(Jb xs i).length<=xs.cst:=by
 unfold Jb
 cases h:(Yn xs)[i]? with
 | none=>simp
 | some a=>exact Nat.le_trans (Rb _ _ _ h) (Vd xs hw)
theorem Fh (os:List (Hd×Bt)) (a b:Hd×Bt) (h0:os[0]?=some a) (h1:os[1]?=some b):a.2.length+b.2.length<=tot os:=by
 cases os with
 | nil=>simp at h0
 | cons x r =>
  cases r with
  | nil=>simp at h1
  | cons y r =>
   simp at h0 h1
   subst h0 h1
   simp only[tot];omega
theorem Sy (xs:Fo) (hw:xs.wf):(Jb xs 0).length+(Jb xs 1).length<=xs.cst:=by
 have h0:=Vy xs hw 0
 have h1:=Vy xs hw 1
 have hc:=Vd xs hw
 unfold Jb at h0 h1 ⊢
 cases e0:(Yn xs)[0]? with
 | none=>rw[e0] at h0;cases e1:(Yn xs)[1]? with
  | none=>simp
  | some b=>rw[e1] at h1;simpa using h1
 | some a=>rw[e0] at h0;cases e1:(Yn xs)[1]? with
  | none=>simpa using h0
  | some b=>exact Nat.le_trans (Fh _ a b e0 e1) hc
theorem okS.nm {k:Int} {nm:Bt} {xs:Fo} {th el:Sf} (h:okS k nm xs th el):nm.length<=4:=by
 rcases h with⟨_,h,_⟩|⟨_,h,_⟩|⟨_,h,_⟩|⟨_,h,_⟩|⟨_,h,_⟩|⟨_,h,_⟩
 ·exact h.len
 ·exact h.len
 all_goals (rw[h];simp)
def Gu (k:Int) (nm:Bt) (xs:Fo) (th el:Sf) (n:Nat):Bt :=
   if k=1 then [118,97,114,32]++(nm++([32,61,32]++(Jb xs 0++[59])))
   else if k=2 then nm++([32,61,32]++(Jb xs 0++[59]))
   else if k=3 then nm++([91]++(Jb xs 0++([93,32,61,32]++(Jb xs 1++[59]))))
   else if k=6 then [114,101,116,117,114,110,32]++(Jb xs 0++[59])
   else if k=7 then [112,114,105,110,116,32]++(Jb xs 0++[59])
   else if k=8 then [99,97,108,108,32]++(Jb xs 0++[59])
   else if k=5 then [119,104,105,108,101,32]++(Jb xs 0++([32,123,10]++(Qy th (n+1)++(Kb n++[125]))))
   else if k=4 then [105,102,32]++(Jb xs 0++([32,123,10]++(Qy th (n+1)++(Kb n++([125] ++
    (if el.len=0 then [] else [32,101,108,115,101,32,123,10]++(Qy el (n+1)++(Kb n++[125]))))))))
   else []
theorem Uv (k ln:Int) (nm:Bt) (xs:Fo) (th el r:Sf) (n:Nat):Qy (.cons k ln nm xs th el r) n=Kb n++(Gu k nm xs th el n++([10]++Qy r n)):=rfl
theorem Vh (S:Sf) (hw:S.wf) (n:Nat) (hn:S.nst+n<=10):(Qy S n).length<=S.cst:=by
 induction S generalizing n with
 | nil=>simp[Qy]
 | cons k ln nm xs th el r ih1 ih2 ih3 =>
  obtain⟨hok,_,hx,ht,he,hr⟩:=hw
  simp only[Sf.nst] at hn
  have h1:=ih1 ht (n+1) (by omega)
  have h2:=ih2 he (n+1) (by omega)
  have h3:=ih3 hr n (by omega)
  have hv0:=Vy xs hx 0
  have hv2:=Sy xs hx
  have hnm:=hok.nm
  have htab:=Ds n
  have hb:(Gu k nm xs th el n).length<=50+xs.cst+th.cst+el.cst:=by
   unfold Gu
   split
   ·simp only[List.length_append,List.length_cons,List.length_nil];omega
   split
   ·simp only[List.length_append,List.length_cons,List.length_nil];omega
   split
   ·simp only[List.length_append,List.length_cons,List.length_nil];omega
   split
   ·simp only[List.length_append,List.length_cons,List.length_nil];omega
   split
   ·simp only[List.length_append,List.length_cons,List.length_nil];omega
   split
   ·simp only[List.length_append,List.length_cons,List.length_nil];omega
   split
   ·simp only[List.length_append,List.length_cons,List.length_nil];omega
   split
   ·split
    ·simp only[List.length_append,List.length_cons,List.length_nil];omega
    simp only[List.length_append,List.length_cons,List.length_nil];omega
   simp
  rw[Uv]
  simp only[List.length_append,List.length_cons,List.length_nil,Sf.cst]
  omega
structure S1 where
 k:Int
 ln:Int
 nm:Bt
 xs:Fo
 th:Sf
 el:Sf
def Sf.get:Sf->Nat->Option S1
 | .nil,_=>none
 | .cons k ln nm xs th el _,0=>some ⟨k,ln,nm,xs,th,el⟩
 | .cons _ _ _ _ _ _ r,i+1=>r.get i
def Sf.pre:Sf->Nat->Sf
 | .nil,_=>.nil
 | .cons _ _ _ _ _ _ _,0=>.nil
 | .cons k ln nm xs th el r,i+1=>.cons k ln nm xs th el (r.pre i)
theorem Sf.get_lt {S:Sf} {i:Nat} (h:i<S.len):∃ x,S.get i=some x:=by
 induction S generalizing i with
 | nil=>simp[Sf.len] at h
 | cons k ln nm xs th el r _ _ ih =>
  cases i with
  | zero=>exact⟨_,rfl⟩
  | succ i=>exact ih (by simp only[Sf.len] at h;omega)
theorem Sf.pre_zero (S:Sf):S.pre 0=.nil:=by cases S<;>rfl
theorem Sf.pre_all (S:Sf):S.pre S.len=S:=by
 induction S with
 | nil=>rfl
 | cons k ln nm xs th el r _ _ ih=>show Sf.cons k ln nm xs th el (r.pre r.len)=_;rw[ih]
theorem Cy (S:Sf) (i:Nat) (x:S1) (h:S.get i=some x) (n:Nat):Qy (S.pre (i+1)) n=Qy (S.pre i) n++(Kb n++(Gu x.k x.nm x.xs x.th x.el n++[10])):=by
 induction S generalizing i with
 | nil=>cases h
 | cons k ln nm xs th el r _ _ ih =>
  cases i with
  | zero =>
   injection h with h
   subst h
   show Qy (.cons k ln nm xs th el (r.pre 0)) n=[]++_
   rw[Uv,Sf.pre_zero,List.nil_append]
   rfl
  | succ i =>
   show Qy (.cons k ln nm xs th el (r.pre (i+1))) n=Qy (.cons k ln nm xs th el (r.pre i)) n++_
   rw[Uv,Uv,ih i h]
   simp[List.append_assoc]
theorem Wm (S:Sf) (i n:Nat):(Qy (S.pre i) n).length<=(Qy S n).length:=by
 induction S generalizing i with
 | nil=>exact Nat.le_refl _
 | cons k ln nm xs th el r _ _ ih =>
  cases i with
  | zero=>simp[Sf.pre,Qy]
  | succ i =>
   show (Qy (.cons k ln nm xs th el (r.pre i)) n).length<=_
   rw[Uv,Uv]
   have:=ih i
   simp only[List.length_append]
   omega
theorem Sf.get_wf {S:Sf} (hw:S.wf) {i:Nat} {x:S1} (h:S.get i=some x):okS x.k x.nm x.xs x.th x.el/\x.xs.wf/\x.th.wf/\x.el.wf/\x.xs.cst<=S.cst/\x.th.cst<=S.cst/\x.el.cst<=S.cst/\x.th.nst+1<=S.nst/\x.el.nst+1<=S.nst:=by
 induction S generalizing i with
 | nil=>cases h
 | cons k ln nm xs th el r _ _ ih =>
  cases i with
  | zero =>
   injection h with h
   subst h
   obtain⟨h1,_,h2,h3,h4,_⟩:=hw
   simp only[Sf.cst,Sf.nst]
   exact⟨h1,h2,h3,h4,by omega,by omega,by omega,by omega,by omega⟩
  | succ i =>
   obtain⟨h1,h2,h3,h4,h5,h6,h7,h8,h9⟩:=ih hw.2.2.2.2.2 h
   simp only[Sf.cst,Sf.nst]
   exact⟨h1,h2,h3,h4,by omega,by omega,by omega,by omega,by omega⟩
theorem Xl.elem {w:World} {S:Sf} {a:Option Addr} {c:Nat} (h:Xl w (λ _=>True) S (.slice a S.len c)) {j:Nat} {x:S1} (hj:S.get j=some x) :
  ∃ b off ax cx at_ ct ae ce,a=some ⟨b,off,none⟩/\b<w.heap.size/\Xq (Xk w (λ _=>True) x.xs (.slice ax x.xs.len cx))/\Xq (Xl w (λ _=>True) x.th (.slice at_ x.th.len ct))/\Xq (Xl w (λ _=>True) x.el (.slice ae x.el.len ce)) /\
   w.cell? ⟨b,off+j*6,none⟩=some (.int .i64 x.k)/\w.cell? ⟨b,off+j*6+1,none⟩=some (.int .i64 x.ln)/\w.cell? ⟨b,off+j*6+2,none⟩=some (.string (st x.nm))/\w.cell? ⟨b,off+j*6+3,none⟩=some (.slice ax x.xs.len cx)/\w.cell? ⟨b,off+j*6+4,none⟩=some (.slice at_ x.th.len ct)/\w.cell? ⟨b,off+j*6+5,none⟩=some (.slice ae x.el.len ce):=by
 obtain⟨a',c',rws,e,h1,h2,h3,h4,h5⟩:=h
 injection e with e1 e2 e3
 subst e1
 clear e2 e3 h1 h2 h3
 have key:∀ (F:Sf) (cs:List Value) (j:Nat),Zz w (λ _=>True) F cs->F.get j=some x->∃ ax cx at_ ct ae ce,Xk w (λ _=>True) x.xs (.slice ax x.xs.len cx)/\Xl w (λ _=>True) x.th (.slice at_ x.th.len ct)/\Xl w (λ _=>True) x.el (.slice ae x.el.len ce) /\
   ∀ i u,(stc x.k x.ln x.nm (.slice ax x.xs.len cx) (.slice at_ x.th.len ct) (.slice ae x.el.len ce))[i]?=some u->cs[j*6+i]?=some u:=by
  intro F
  induction F with
  | nil=>intro cs j _ hg;cases hg
  | cons k ln nm xs th el r _ _ ih =>
   intro cs j hF hg
   obtain⟨slx,at_,ct,rt,ae,ce,re,cs',rfl,k1,k2,k3,k4,k5,k6,k7,k8,k9,k10,k11,k12⟩:=hF
   cases j with
   | zero =>
    injection hg with hg
    subst hg
    obtain⟨ax,cx,rx,rfl,r1⟩:=id k1
    refine⟨ax,cx,at_,ct,ae,ce,k1,⟨at_,ct,rt,rfl,k2,k3,k4,k5,k6⟩,⟨ae,ce,re,rfl,k7,k8,k9,k10,k11⟩,λ i u hi=>?_⟩
    have:i<6:=(List.getElem?_eq_some_iff.1 hi).1
    rw[Nat.zero_mul,Nat.zero_add,List.getElem?_append_left (by simpa using this)]
    exact hi
   | succ j =>
    obtain⟨ax,cx,at2,ct2,ae2,ce2,q1,q2,q3,q4⟩:=ih cs' j k12 hg
    refine⟨ax,cx,at2,ct2,ae2,ce2,q1,q2,q3,λ i u hi=>?_⟩
    rw[List.getElem?_append_right (by show 6<=_;omega)]
    have e:(j+1)*6+i-6=j*6+i:=by omega
    show cs'[(j+1)*6+i-6]?=_
    rw[e]
    exact q4 i u hi
 obtain⟨ax,cx,at_,ct,ae,ce,q1,q2,q3,q4⟩:=key S rws j h5 hj
 obtain⟨b,off,rfl,_,hb,hjx⟩:=h4 (λ e=>by have:=q4 0 _ rfl;rw[e] at this;cases this)
 have hk:∀ i u,(stc x.k x.ln x.nm (.slice ax x.xs.len cx) (.slice at_ x.th.len ct) (.slice ae x.el.len ce))[i]?=some u->w.cell? ⟨b,off+(j*6+i),none⟩=some u:=λ i u hi=>hjx _ _ (q4 i u hi)
 exact⟨b,off,ax,cx,at_,ct,ae,ce,rfl,hb,Xj q1,Xj q2,Xj q3,hk 0 _ rfl,by rw[Nat.add_assoc];exact hk 1 _ rfl,by rw[Nat.add_assoc];exact hk 2 _ rfl,by rw[Nat.add_assoc];exact hk 3 _ rfl,by rw[Nat.add_assoc];exact hk 4 _ rfl,by rw[Nat.add_assoc];exact hk 5 _ rfl⟩
theorem Xl.belowT {w w':World} {S:Sf} {sl:Value} (h:Xl w (λ _=>True) S sl) (hb:Below w.heap.size w w'):Xl w' (λ _=>True) S sl:=h.keep (λ b _ hlt=>⟨hb.block b hlt,trivial⟩) hb.size
def BOK (S:Sf):Prop:=∀ (n:Nat) (t:Bt),t=Kb n->S.nst+n<=10->∀ (W:World) (sl:Value),Xl W (λ _=>True) S sl->Calls Tryz.prog 47 #[sl,.string (st t)] W λ e w'=>e=.returned (.string (st (Qy S n)))/\Below W.heap.size W w'
theorem Su (n:Nat):Kb n++[9]=Kb (n+1):=by unfold Kb;rw[<- List.replicate_succ']
theorem BOK.call {S:Sf} (h:BOK S) {n:Nat} {t:Bt} (ht:t=Kb n) (hn:S.nst+n<=10) {a:Option Addr} {c:Nat} (W:World) (hs:Xl W (λ _=>True) S (.slice a S.len c)):Calls Tryz.prog 47 #[.slice a S.len c,.string (st t)] W λ e w'=>e=.returned (.string (st (Qy S n)))/\Below W.heap.size W w':=h n t ht hn W _ hs
theorem Sv (S:Sf) (hw:S.wf) (hc:S.cst<=1000000) (hB:∀ j x,S.get j=some x->BOK x.th/\BOK x.el):BOK S:=by
 intro n T hT hn w sl hs
 have HS0:=Xj hs
 obtain⟨a,c,rws,rfl,hlc,hcm,-,-,-⟩:=hs
 have He:=Nat.le_trans (Vh S hw n hn) hc
 have hxn:=Xj He
 have HWF:=Xj hw
 have HCS:=Xj hc
 have HBB:=Xj hB
 have HTT:=Xj hT
 have HN:=Xj hn
 have htl:T.length<=10:=by rw[hT,Ds];omega
 clear hw hc hB He hT hn
 obtain⟨N,hN⟩:∃ N,S.len=N:=⟨_,rfl⟩
 rw[hN] at hlc ⊢
 have HNN:=Xj hN
 clear hN
 have hwl:N<=9223372036854775807:=by unfold maxLen at hcm;omega
 go_enter Tryz.func47,Tryz.ntmps47
 go_upto_block 0 with fail
 go_wp2_with fail
 go_loopw [5,6] (λ v5 v6 wr=>∃ i:Nat,i<=N/\v5=.string (st (Qy (S.pre i) n))/\v6=.int .i64 i/\Xq (Below w.heap.size w wr)) (λ _ v6 _=>N-(intOf v6).toNat)
 case atStart=>exact⟨0,by omega,(by rw[Sf.pre_zero];rfl),rfl,Xj (Below.refl _ _)⟩
 obtain⟨i,hi,rfl,rfl,HR⟩:=hrel
 have hpl:=Nat.le_trans (Wm S i n) hxn.o
 by_cases hlt:i<N
 ·obtain⟨x,hx⟩:=Sf.get_lt (S:=S) (i:=i) (by rw[HNN.o];exact hlt)
  have hzk:=Xj (Cy S i x hx n)
  have hhd:=Nat.le_trans (Wm S (i+1) n) hxn.o
  have hbl:(Gu x.k x.nm x.xs x.th x.el n).length<=1000000:=by
   rw[hzk.o] at hhd
   simp only[List.length_append] at hhd
   omega
  clear hhd
  obtain⟨hok,hxw,htw,hew,hxc,htc,hec,htn,hen⟩:=Sf.get_wf HWF.o hx
  have HXW:=Xj hxw
  have HXC:=Xj (Nat.le_trans hxc HCS.o)
  have HTN:Xq (x.th.nst+(n+1)<=10):=Xj (by have:=HN.o;omega)
  have HEN:Xq (x.el.nst+(n+1)<=10):=Xj (by have:=HN.o;omega)
  have HBT:=Xj (HBB.o i x hx).1
  have HBE:=Xj (HBB.o i x hx).2
  have HTL:Xq ((Qy x.th (n+1)).length<=1000000):=Xj (Nat.le_trans (Vh x.th htw (n+1) HTN.o) (Nat.le_trans htc HCS.o))
  have HEL:Xq ((Qy x.el (n+1)).length<=1000000):=Xj (Nat.le_trans (Vh x.el hew (n+1) HEN.o) (Nat.le_trans hec HCS.o))
  have hnm:=hok.nm
  have HV0:=Xj (Nat.le_trans (Vy x.xs hxw 0) HXC.o)
  have HV1:=Xj (Nat.le_trans (Vy x.xs hxw 1) HXC.o)
  clear hxw htw hew hxc htc hec htn hen
  have hat:=HS0.o.belowT HR.o
  rw[HNN.o] at hat
  obtain⟨b,off,ax,cx,at_,ct,ae,ce,rfl,hbb,HX,HTH,HEH,k0,k1,k2,k3,k4,k5⟩:=Xl.elem (S:=S) (j:=i) (x:=x) (by rw[HNN.o];exact hat) hx
  clear hat hx
  obtain⟨k,ln,nm,xs,th,el⟩:=x
  dsimp only at *
  have hb1:=Xw wr (.cells #[.int .i64 k,.int .i64 ln,.string (st nm),.slice ax xs.len cx,.slice at_ th.len ct,.slice ae el.len ce] 110)
  have hr1:=heap_alloc_new wr (.cells #[.int .i64 k,.int .i64 ln,.string (st nm),.slice ax xs.len cx,.slice at_ th.len ct,.slice ae el.len ce] 110)
  have HX1:=Xj (HX.o.belowT hb1)
  have hhh:=Xj (HTH.o.belowT hb1)
  have HEH1:=Xj (HEH.o.belowT hb1)
  obtain⟨P,hP⟩:∃ P,Qy (S.pre i) n=P:=⟨_,rfl⟩
  rw[hP] at hpl ⊢
  have HPP:=Xj hP
  clear hP
  go_upto_region 6 with fail
  obtain⟨w1,hw1⟩:∃ W,wr.alloc (.cells #[.int .i64 k,.int .i64 ln,.string (st nm),.slice ax xs.len cx,.slice at_ th.len ct,.slice ae el.len ce] 110)=W:=⟨_,rfl⟩
  obtain⟨g,hg⟩:∃ x,wr.heap.size=x:=⟨_,rfl⟩
  rw[hw1] at hb1 hr1 HX1 hhh HEH1 ⊢
  rw[hg] at hr1
  (try rw[hg])
  have HB1:=Xj (HR.o.trans (hb1.mono HR.o.size))
  obtain⟨p0,p1,p2,p3,p4,p5⟩:=Yu hr1
  have HR1:=Xj hr1
  clear hw1 hb1 hr1 hg k0 k1 k2 k3 k4 k5 HX HTH HEH
  have hst:=Qq
  have HTS:Xq (T++[9]=Kb (n+1)):=Xj (by rw[HTT.o];exact Su n)
  obtain⟨V0,hV0⟩:∃ v,Jb xs 0=v:=⟨_,rfl⟩
  obtain⟨V1,hV1⟩:∃ v,Jb xs 1=v:=⟨_,rfl⟩
  obtain⟨TH,hTH⟩:∃ v,Qy th (n+1)=v:=⟨_,rfl⟩
  obtain⟨EL,hEL⟩:∃ v,Qy el (n+1)=v:=⟨_,rfl⟩
  have hv0:=HV0.o
  have hv1:=HV1.o
  have hth:=HTL.o
  have hel:=HEL.o
  rw[hV0] at hv0
  rw[hV1] at hv1
  rw[hTH] at hth
  rw[hEL] at hel
  have hup:Gu k nm xs th el n=(if k=1 then [118,97,114,32]++(nm++([32,61,32]++(V0++[59])))
  else if k=2 then nm++([32,61,32]++(V0++[59]))
  else if k=3 then nm++([91]++(V0++([93,32,61,32]++(V1++[59]))))
  else if k=6 then [114,101,116,117,114,110,32]++(V0++[59])
  else if k=7 then [112,114,105,110,116,32]++(V0++[59])
  else if k=8 then [99,97,108,108,32]++(V0++[59])
  else if k=5 then [119,104,105,108,101,32]++(V0++([32,123,10]++(TH++(T++[125]))))
  else if k=4 then [105,102,32]++(V0++([32,123,10]++(TH++(T++([125] ++
   (if el.len=0 then [] else [32,101,108,115,101,32,123,10]++(EL++(T++[125]))))))))
  else []):=by unfold Gu;rw[hV0,hV1,hTH,hEL,HTT.o]
  rw[hup] at hzk hbl
  have hvx:=Xj hV0
  have HVV1:=Xj hV1
  have HVTH:=Xj hTH
  have HVEL:=Xj hEL
  clear hV0 hV1 hTH hEL hup HV0 HV1 HTL HEL
  have hZ:∀ (u:Bt) (wz:World),Qy (S.pre (i+1)) n=u->Below w.heap.size w wz->(∃ i_1:Nat,i_1<=N/\(Value.string (st u))=.string (st (Qy (S.pre i_1) n))/\(Value.int .i64 ((i:Int)+1))=.int .i64 i_1/\Xq (Below w.heap.size w wz)):=λ u wz hu hbz=>⟨i+1,by omega,by rw[hu],by go_num,Xj hbz⟩
  have hjy:=Xj hZ
  clear hZ
  rcases hok with⟨hk,hnk,hxl,-,-⟩|⟨hk,hnk,hxl,-,-⟩|⟨hk,hnk,hxl⟩|⟨hk,hnk,hxl,-⟩|⟨hk,hnk,hxl,-,-⟩|⟨hk,hnk,-,-,hh,har,hxl,-⟩
  ·have HXL:=Xj hxl
   clear hnk hxl
   rcases hk with hk|hk
   ·subst hk
    have hjf:Xq (∀ W,Below w1.heap.size w1 W->Calls Tryz.prog 81 #[stv 1 ln nm (.slice ax xs.len cx) (.slice at_ th.len ct) (.slice ae el.len ce),.int .i64 0] W λ e w'=>e=.returned (.string (st V0))/\Below W.heap.size W w'):=Xj (λ W hW=>by
     have:=Qp 1 ln nm xs at_ ae th.len ct el.len ce 0 (by have:=HXL.o;omega) HXW.o HXC.o W ax cx (HX1.o.belowT hW)
     rw[hvx.o] at this
     exact this)
    go_upto_region 9 with fail
    refine Xn (by kernel_rfl) (by kernel_rfl) ?_
    have q0:∀ x:Xy w1,x.val.cell? ⟨g,0,none⟩=some (.int .i64 1):=λ x=>x.cell p0
    have q1:∀ x:Xy w1,x.val.cell? ⟨g,1,none⟩=some (.int .i64 ln):=λ x=>x.cell p1
    have q2:∀ x:Xy w1,x.val.cell? ⟨g,2,none⟩=some (.string (st nm)):=λ x=>x.cell p2
    have q3:∀ x:Xy w1,x.val.cell? ⟨g,3,none⟩=some (.slice ax xs.len cx):=λ x=>x.cell p3
    have q4:∀ x:Xy w1,x.val.cell? ⟨g,4,none⟩=some (.slice at_ th.len ct):=λ x=>x.cell p4
    have q5:∀ x:Xy w1,x.val.cell? ⟨g,5,none⟩=some (.slice ae el.len ce):=λ x=>x.cell p5
    repeat (go_big_quiet_step ((go_at_call 81;exact Xd _ (hjf.o _ (Xy.property _)))))
    refine wpQuiet_nil ?_
    intro w2 hb2
    clear q0 q1 q2 q3 q4 q5
    go_wp2_with fail
    go_roundw
    case rel=>exact hjy.o _ _ (by rw[hzk.o,HPP.o,<- HTT.o];simp[List.append_assoc]) (HB1.o.trans (hb2.mono HB1.o.size))
    simp[intOf];omega
   subst hk
   have hjf:Xq (∀ W,Below w1.heap.size w1 W->Calls Tryz.prog 81 #[stv 2 ln nm (.slice ax xs.len cx) (.slice at_ th.len ct) (.slice ae el.len ce),.int .i64 0] W λ e w'=>e=.returned (.string (st V0))/\Below W.heap.size W w'):=Xj (λ W hW=>by
    have:=Qp 2 ln nm xs at_ ae th.len ct el.len ce 0 (by have:=HXL.o;omega) HXW.o HXC.o W ax cx (HX1.o.belowT hW)
    rw[hvx.o] at this
    exact this)
   go_upto_region 11 with fail
   refine Xn (by kernel_rfl) (by kernel_rfl) ?_
   have q0:∀ x:Xy w1,x.val.cell? ⟨g,0,none⟩=some (.int .i64 2):=λ x=>x.cell p0
   have q1:∀ x:Xy w1,x.val.cell? ⟨g,1,none⟩=some (.int .i64 ln):=λ x=>x.cell p1
   have q2:∀ x:Xy w1,x.val.cell? ⟨g,2,none⟩=some (.string (st nm)):=λ x=>x.cell p2
   have q3:∀ x:Xy w1,x.val.cell? ⟨g,3,none⟩=some (.slice ax xs.len cx):=λ x=>x.cell p3
   have q4:∀ x:Xy w1,x.val.cell? ⟨g,4,none⟩=some (.slice at_ th.len ct):=λ x=>x.cell p4
   have q5:∀ x:Xy w1,x.val.cell? ⟨g,5,none⟩=some (.slice ae el.len ce):=λ x=>x.cell p5
   repeat (go_big_quiet_step ((go_at_call 81;exact Xd _ (hjf.o _ (Xy.property _)))))
   refine wpQuiet_nil ?_
   intro w2 hb2
   clear q0 q1 q2 q3 q4 q5
   go_wp2_with fail
   go_roundw
   case rel=>exact hjy.o _ _ (by rw[hzk.o,HPP.o,<- HTT.o];simp[List.append_assoc]) (HB1.o.trans (hb2.mono HB1.o.size))
   simp[intOf];omega
  ·have HXL:=Xj hxl
   clear hnk hxl
   subst hk
   have hjf:Xq (∀ W,Below w1.heap.size w1 W->Calls Tryz.prog 81 #[stv 3 ln nm (.slice ax xs.len cx) (.slice at_ th.len ct) (.slice ae el.len ce),.int .i64 0] W λ e w'=>e=.returned (.string (st V0))/\Below W.heap.size W w'):=Xj (λ W hW=>by
    have:=Qp 3 ln nm xs at_ ae th.len ct el.len ce 0 (by have:=HXL.o;omega) HXW.o HXC.o W ax cx (HX1.o.belowT hW)
    rw[hvx.o] at this
    exact this)
   have hhl:Xq (∀ W,Below w1.heap.size w1 W->Calls Tryz.prog 81 #[stv 3 ln nm (.slice ax xs.len cx) (.slice at_ th.len ct) (.slice ae el.len ce),.int .i64 1] W λ e w'=>e=.returned (.string (st V1))/\Below W.heap.size W w'):=Xj (λ W hW=>by
    have:=Qp 3 ln nm xs at_ ae th.len ct el.len ce 1 (by have:=HXL.o;omega) HXW.o HXC.o W ax cx (HX1.o.belowT hW)
    rw[HVV1.o] at this
    exact this)
   go_upto_region 13 with fail
   refine Xn (by kernel_rfl) (by kernel_rfl) ?_
   have q0:∀ x:Xy w1,x.val.cell? ⟨g,0,none⟩=some (.int .i64 3):=λ x=>x.cell p0
   have q1:∀ x:Xy w1,x.val.cell? ⟨g,1,none⟩=some (.int .i64 ln):=λ x=>x.cell p1
   have q2:∀ x:Xy w1,x.val.cell? ⟨g,2,none⟩=some (.string (st nm)):=λ x=>x.cell p2
   have q3:∀ x:Xy w1,x.val.cell? ⟨g,3,none⟩=some (.slice ax xs.len cx):=λ x=>x.cell p3
   have q4:∀ x:Xy w1,x.val.cell? ⟨g,4,none⟩=some (.slice at_ th.len ct):=λ x=>x.cell p4
   have q5:∀ x:Xy w1,x.val.cell? ⟨g,5,none⟩=some (.slice ae el.len ce):=λ x=>x.cell p5
   repeat (go_big_quiet_step ((first|(go_at_call 81;with_reducible exact Xd _ (hjf.o _ (Xy.property _)))|(go_at_call 81;exact Xd _ (hhl.o _ (Xy.property _))))))
   refine wpQuiet_nil ?_
   intro w2 hb2
   clear q0 q1 q2 q3 q4 q5
   go_wp2_with fail
   go_roundw
   case rel=>exact hjy.o _ _ (by rw[hzk.o,HPP.o,<- HTT.o];simp[List.append_assoc]) (HB1.o.trans (hb2.mono HB1.o.size))
   simp[intOf];omega
  ·have HXL:=Xj hxl
   clear hnk hxl
   subst hk
   have hjf:Xq (∀ W,Below w1.heap.size w1 W->Calls Tryz.prog 81 #[stv 4 ln nm (.slice ax xs.len cx) (.slice at_ th.len ct) (.slice ae el.len ce),.int .i64 0] W λ e w'=>e=.returned (.string (st V0))/\Below W.heap.size W w'):=Xj (λ W hW=>by
    have:=Qp 4 ln nm xs at_ ae th.len ct el.len ce 0 (by have:=HXL.o;omega) HXW.o HXC.o W ax cx (HX1.o.belowT hW)
    rw[hvx.o] at this
    exact this)
   have HCT:Xq (∀ W,Below w1.heap.size w1 W->Calls Tryz.prog 47 #[.slice at_ th.len ct,.string (st (T++[9]))] W λ e w'=>e=.returned (.string (st TH))/\Below W.heap.size W w'):=Xj (λ W hW=>by
    have:=HBT.o.call HTS.o HTN.o W (hhh.o.belowT hW)
    rw[HVTH.o] at this
    exact this)
   have HCE:Xq (∀ W,Below w1.heap.size w1 W->Calls Tryz.prog 47 #[.slice ae el.len ce,.string (st (T++[9]))] W λ e w'=>e=.returned (.string (st EL))/\Below W.heap.size W w'):=Xj (λ W hW=>by
    have:=HBE.o.call HTS.o HEN.o W (HEH1.o.belowT hW)
    rw[HVEL.o] at this
    exact this)
   go_upto_region 23 with fail
   refine Xn (by kernel_rfl) (by kernel_rfl) ?_
   have q0:∀ x:Xy w1,x.val.cell? ⟨g,0,none⟩=some (.int .i64 4):=λ x=>x.cell p0
   have q1:∀ x:Xy w1,x.val.cell? ⟨g,1,none⟩=some (.int .i64 ln):=λ x=>x.cell p1
   have q2:∀ x:Xy w1,x.val.cell? ⟨g,2,none⟩=some (.string (st nm)):=λ x=>x.cell p2
   have q3:∀ x:Xy w1,x.val.cell? ⟨g,3,none⟩=some (.slice ax xs.len cx):=λ x=>x.cell p3
   have q4:∀ x:Xy w1,x.val.cell? ⟨g,4,none⟩=some (.slice at_ th.len ct):=λ x=>x.cell p4
   have q5:∀ x:Xy w1,x.val.cell? ⟨g,5,none⟩=some (.slice ae el.len ce):=λ x=>x.cell p5
   repeat (go_big_quiet_step ((first|(go_at_call 81;exact Xd _ (hjf.o _ (Xy.property _)))|(go_at_call 47;exact Xd _ (HCT.o _ (Xy.property _))))))
   refine wpQuiet_nil ?_
   intro w2 hb2
   clear q0 q1 q2 q3 q4 q5
   have hp5:=(hb2.cell (p:=⟨g,5,none⟩) (Xv HR1.o)).trans p5
   have HB2:=Xj (HB1.o.trans (hb2.mono HB1.o.size))
   have HBW2:=Xj hb2
   clear p0 p1 p2 p3 p4 p5 hb2
   by_cases hz:el.len=0
   ·rw[if_neg (by decide),if_neg (by decide),if_neg (by decide),if_neg (by decide),if_neg (by decide),if_neg (by decide),if_neg (by decide),if_pos rfl,if_pos hz] at hzk
    have hdz:decide ((0:Int)<(el.len:Int))=false:=by rw[decide_eq_false_iff_not];omega
    have hdz2:decide (0<el.len)=false:=by rw[decide_eq_false_iff_not];omega
    clear hz
    go_wp2_with fail
    go_roundw
    case rel=>exact hjy.o _ _ (by rw[hzk.o,HPP.o,<- HTT.o];simp[List.append_assoc]) HB2.o
    simp[intOf];omega
   rw[if_neg (by decide),if_neg (by decide),if_neg (by decide),if_neg (by decide),if_neg (by decide),if_neg (by decide),if_neg (by decide),if_pos rfl,if_neg hz] at hzk
   have hdz:decide ((0:Int)<(el.len:Int))=true:=by rw[decide_eq_true_iff];omega
   have hdz2:decide (0<el.len)=true:=by rw[decide_eq_true_iff];omega
   clear hz
   go_wp2_with fail
   refine(HCE.o _ HBW2.o).mono ?_
   rintro e w3 ⟨rfl,hb3⟩
   go_wp2_with fail
   go_roundw
   case rel=>exact hjy.o _ _ (by rw[hzk.o,HPP.o,<- HTT.o];simp[List.append_assoc]) (HB2.o.trans (hb3.mono HB2.o.size))
   simp[intOf];omega
  ·have HXL:=Xj hxl
   clear hnk hxl
   subst hk
   have hjf:Xq (∀ W,Below w1.heap.size w1 W->Calls Tryz.prog 81 #[stv 5 ln nm (.slice ax xs.len cx) (.slice at_ th.len ct) (.slice ae el.len ce),.int .i64 0] W λ e w'=>e=.returned (.string (st V0))/\Below W.heap.size W w'):=Xj (λ W hW=>by
    have:=Qp 5 ln nm xs at_ ae th.len ct el.len ce 0 (by have:=HXL.o;omega) HXW.o HXC.o W ax cx (HX1.o.belowT hW)
    rw[hvx.o] at this
    exact this)
   have HCT:Xq (∀ W,Below w1.heap.size w1 W->Calls Tryz.prog 47 #[.slice at_ th.len ct,.string (st (T++[9]))] W λ e w'=>e=.returned (.string (st TH))/\Below W.heap.size W w'):=Xj (λ W hW=>by
    have:=HBT.o.call HTS.o HTN.o W (hhh.o.belowT hW)
    rw[HVTH.o] at this
    exact this)
   go_upto_region 21 with fail
   refine Xn (by kernel_rfl) (by kernel_rfl) ?_
   have q0:∀ x:Xy w1,x.val.cell? ⟨g,0,none⟩=some (.int .i64 5):=λ x=>x.cell p0
   have q1:∀ x:Xy w1,x.val.cell? ⟨g,1,none⟩=some (.int .i64 ln):=λ x=>x.cell p1
   have q2:∀ x:Xy w1,x.val.cell? ⟨g,2,none⟩=some (.string (st nm)):=λ x=>x.cell p2
   have q3:∀ x:Xy w1,x.val.cell? ⟨g,3,none⟩=some (.slice ax xs.len cx):=λ x=>x.cell p3
   have q4:∀ x:Xy w1,x.val.cell? ⟨g,4,none⟩=some (.slice at_ th.len ct):=λ x=>x.cell p4
   have q5:∀ x:Xy w1,x.val.cell? ⟨g,5,none⟩=some (.slice ae el.len ce):=λ x=>x.cell p5
   repeat (go_big_quiet_step ((first|(go_at_call 81;exact Xd _ (hjf.o _ (Xy.property _)))|(go_at_call 47;exact Xd _ (HCT.o _ (Xy.property _))))))
   refine wpQuiet_nil ?_
   intro w2 hb2
   clear q0 q1 q2 q3 q4 q5
   go_wp2_with fail
   go_roundw
   case rel=>exact hjy.o _ _ (by rw[hzk.o,HPP.o,<- HTT.o];simp[List.append_assoc]) (HB1.o.trans (hb2.mono HB1.o.size))
   simp[intOf];omega
  ·have HXL:=Xj hxl
   clear hnk hxl
   rcases hk with hk|hk
   ·subst hk
    have hjf:Xq (∀ W,Below w1.heap.size w1 W->Calls Tryz.prog 81 #[stv 6 ln nm (.slice ax xs.len cx) (.slice at_ th.len ct) (.slice ae el.len ce),.int .i64 0] W λ e w'=>e=.returned (.string (st V0))/\Below W.heap.size W w'):=Xj (λ W hW=>by
     have:=Qp 6 ln nm xs at_ ae th.len ct el.len ce 0 (by have:=HXL.o;omega) HXW.o HXC.o W ax cx (HX1.o.belowT hW)
     rw[hvx.o] at this
     exact this)
    go_wp2_with fail
    refine(hjf.o _ (Below.refl _ _)).mono ?_
    rintro e w2 ⟨rfl,hb2⟩
    go_wp2_with fail
    go_roundw
    case rel=>exact hjy.o _ _ (by rw[hzk.o,HPP.o,<- HTT.o];simp[List.append_assoc]) (HB1.o.trans (hb2.mono HB1.o.size))
    simp[intOf];omega
   subst hk
   have hjf:Xq (∀ W,Below w1.heap.size w1 W->Calls Tryz.prog 81 #[stv 7 ln nm (.slice ax xs.len cx) (.slice at_ th.len ct) (.slice ae el.len ce),.int .i64 0] W λ e w'=>e=.returned (.string (st V0))/\Below W.heap.size W w'):=Xj (λ W hW=>by
    have:=Qp 7 ln nm xs at_ ae th.len ct el.len ce 0 (by have:=HXL.o;omega) HXW.o HXC.o W ax cx (HX1.o.belowT hW)
    rw[hvx.o] at this
    exact this)
   go_wp2_with fail
   refine(hjf.o _ (Below.refl _ _)).mono ?_
   rintro e w2 ⟨rfl,hb2⟩
   go_wp2_with fail
   go_roundw
   case rel=>exact hjy.o _ _ (by rw[hzk.o,HPP.o,<- HTT.o];simp[List.append_assoc]) (HB1.o.trans (hb2.mono HB1.o.size))
   simp[intOf];omega
  have hxl1:xs.len=1:=by rw[hxl];rfl
  have HXL:=Xj hxl1
  clear hnk hxl hxl1
  subst hk
  have hjf:Xq (∀ W,Below w1.heap.size w1 W->Calls Tryz.prog 81 #[stv 8 ln nm (.slice ax xs.len cx) (.slice at_ th.len ct) (.slice ae el.len ce),.int .i64 0] W λ e w'=>e=.returned (.string (st V0))/\Below W.heap.size W w'):=Xj (λ W hW=>by
   have:=Qp 8 ln nm xs at_ ae th.len ct el.len ce 0 (by have:=HXL.o;omega) HXW.o HXC.o W ax cx (HX1.o.belowT hW)
   rw[hvx.o] at this
   exact this)
  go_wp2_with fail
  refine(hjf.o _ (Below.refl _ _)).mono ?_
  rintro e w2 ⟨rfl,hb2⟩
  go_wp2_with fail
  go_roundw
  case rel=>exact hjy.o _ _ (by rw[hzk.o,HPP.o,<- HTT.o];simp[List.append_assoc]) (HB1.o.trans (hb2.mono HB1.o.size))
  simp[intOf];omega
 obtain rfl:i=N:=by omega
 have HE:Xq (Qy (S.pre i) n=Qy S n):=Xj (by rw[<- HNN.o,Sf.pre_all])
 obtain⟨P,hP⟩:∃ P,Qy (S.pre i) n=P:=⟨_,rfl⟩
 rw[hP] at hpl HE ⊢
 have hst:=Qq
 go_wp2_with fail
 refine bodyPost_ret (v:=.string (st P)) (by simp[results,Tryz.results47,go_sem]) rfl ?_
 exact⟨by rw[HE.o],HR.o⟩
theorem Ol (S:Sf) (hw:S.wf) (hc:S.cst<=1000000):BOK S/\∀ j x,S.get j=some x->BOK x.th/\BOK x.el:=by
 induction S with
 | nil=>exact⟨Sv _ hw hc (λ j x hx=>by cases hx),λ j x hx=>by cases hx⟩
 | cons k ln nm xs th el r ih1 ih2 ih3 =>
  have hcs:150+xs.cst+th.cst+el.cst+r.cst<=1000000:=hc
  have h1:=ih1 hw.2.2.2.1 (by omega)
  have h2:=ih2 hw.2.2.2.2.1 (by omega)
  have h3:=ih3 hw.2.2.2.2.2 (by omega)
  have hqc:∀ j x,(Sf.cons k ln nm xs th el r).get j=some x->BOK x.th/\BOK x.el:=by
   intro j x hx
   cases j with
   | zero=>injection hx with hx;subst hx;exact⟨h1.1,h2.1⟩
   | succ j=>exact h3.2 j x hx
  exact⟨Sv _ hw hc hqc,hqc⟩
structure Ud (w:World) (gs:List (Bt×Int)) (fs:List Fr) (Fs:List Fn) (aa:Option Addr) (ca:Nat) (ab:Option Addr) (cb:Nat):Prop where
 gcap:gs.length<=ca/\ca<=maxLen
 fcap:fs.length<=cb/\cb<=maxLen
 gat:Vt w (λ _=>True) aa (glc gs)
 fat:Vt w (λ _=>True) ab (frc fs)
 fns:Qg w (λ _=>True) fs Fs
 gok:∀ x∈gs,okN x.1/\0<=x.2/\x.2<=5
 gn:gs.length<=4
 fok:∀ f∈fs,okN f.nm/\f.pn<=2
 f1:1<=fs.length
 f4:fs.length<=4
theorem Ud.below {w w':World} {gs:List (Bt×Int)} {fs:List Fr} {Fs:List Fn} {aa ab:Option Addr} {ca cb:Nat} (h:Ud w gs fs Fs aa ca ab cb) (hb:Below w.heap.size w w'):Ud w' gs fs Fs aa ca ab cb :=
 {h with
  gat:=h.gat.keep (λ b _ hlt=>⟨hb.block b hlt,trivial⟩) hb.size
  fat:=h.fat.keep (λ b _ hlt=>⟨hb.block b hlt,trivial⟩) hb.size
  fns:=h.fns.keep (λ b _ hlt=>⟨hb.block b hlt,trivial⟩) hb.size }
theorem Ud.of_post {gc:Nat} {w w':World} {e:Ending} (h:Dc gc w e w') :
  ∃ (gs:List (Bt×Int)) (fs:List Fr) (Fs:List Fn) (aa:Option Addr) (ca:Nat) (ab:Option Addr) (cb:Nat),e=.returned (.agg #[.slice aa gs.length ca,.slice ab fs.length cb])/\Cod w' gc/\w.grownBy w' (some gc)/\Ud w' gs fs Fs aa ca ab cb:=by
 obtain⟨M,Fs,rfl,h1,h2,h3,h4,h5,h6,h7,h8,h9,h10⟩:=h
 obtain⟨aa,ca,e1,_,c1,c2,c3,_⟩:=Yf.of_own h3
 obtain⟨ab,cb,e2,_,d1,d2,d3,_⟩:=Yf.of_own h4
 refine⟨M.gs,M.fs,Fs,aa,ca,ab,cb,by rw[e1,e2],h1,h2,⟨c1,c2⟩,⟨d1,d2⟩,?_,?_,h5.keep (λ b _ _=>⟨rfl,trivial⟩) (Nat.le_refl _),h6,h7,h8,h9,h10⟩
 ·intro hx;obtain⟨b,off,e,hb,hc⟩:=c3 hx;exact⟨b,off,e,trivial,hb,hc⟩
 intro hx;obtain⟨b,off,e,hb,hc⟩:=d3 hx;exact⟨b,off,e,trivial,hb,hc⟩
theorem Rp (ls:List Bt) (j:Nat) (p:Bt) (h:ls[j]?=some p):(Zm ls)[j]?=some (.string (st p)):=by simp[h]
theorem Pt (l:List Bt) (i:Nat) (x:Bt) (h:l[i]?=some x):Qb (l.take (i+1))=if i=0 then x else Qb (l.take i)++([44,32]++x):=by
 have hi:=(List.getElem?_eq_some_iff.1 h).1
 have e:l.take (i+1)=l.take i++[x]:=by
  rw[List.take_add_one,h];rfl
 rw[e,Hg]
 by_cases h0:i=0
 ·subst h0;simp
 rw[if_neg h0,if_neg (by
  intro e2
  have h3:(l.take i).length=i:=by rw[List.length_take];omega
  rw[e2] at h3
  exact h0 h3.symm)]
theorem Hm (l:List Bt) (h:∀ x∈l,x.length<=4):(Qb l).length<=6*l.length:=by
 induction l with
 | nil=>simp[Qb]
 | cons a r ih =>
  have h1:=h a (by simp)
  have h2:=ih (λ x hx=>h x (by simp[hx]))
  cases r with
  | nil=>simp[Qb];omega
  | cons b r =>
   show (a++(([44,32]:Bt)++Qb (b::r))).length<=6*((b::r).length+1)
   rw[List.length_append,List.length_append]
   simp only[List.length_cons,List.length_nil] at h2 ⊢
   omega
theorem Tl (n:Int) (h0:0<=n) (h1:n<=5):(Lib.decDigits n.toNat).length<=19:=Zk (by omega)
theorem Nr (x:Bt×Int) (h:okN x.1/\0<=x.2/\x.2<=5):(Wr x).length<=40:=by
 have h1:=h.1.len
 have h2:=Tl x.2 h.2.1 h.2.2
 unfold Wr
 split
 ·simp only[List.length_append,List.length_cons,List.length_nil];omega
 simp only[List.length_append,List.length_cons,List.length_nil];omega
theorem Wc {α:Type} (f:α->Bt) (c:Nat) (l:List α) (h:∀ x∈l,(f x).length<=c):(l.flatMap f).length<=l.length*c:=by
 induction l with
 | nil=>simp
 | cons a r ih =>
  rw[List.flatMap_cons,List.length_append,List.length_cons,Nat.add_mul]
  have:=h a (by simp)
  have:=ih (λ x hx=>h x (by simp[hx]))
  omega
theorem Hz {α:Type} (f:α->Bt) (l:List α) (i:Nat) (x:α) (h:l[i]?=some x):(l.take (i+1)).flatMap f=(l.take i).flatMap f++f x:=by
 rw[List.take_add_one,h]
 simp
theorem Ns {w:World} {P:Nat->Prop} {f:Fr} {F:Fn} (h:Gm w P f F) (hn:okN f.nm/\f.pn<=2):(Ws F).length<=9200/\F.bd.nst+1<=10/\F.nm.length<=4/\F.ps.length<=2/\∀ p∈F.ps,p.length<=4:=by
 obtain⟨h1,h2,_,_,_,_,h7,_,h9,h10,h11,_⟩:=h
 have hp:∀ p∈F.ps,p.length<=4:=λ p hp=>(h7 p hp).len
 have hl:=Vh F.bd h9 1 (by omega)
 have hc:=Hm F.ps hp
 have hnm:=hn.1.len
 rw[h1] at hnm
 have hps:F.ps.length<=2:=by have:=hn.2;omega
 refine⟨?_,by omega,hnm,hps,hp⟩
 unfold Ws
 simp only[List.length_append,List.length_cons,List.length_nil]
 omega
theorem Qg.get2 {w:World} {P:Nat->Prop} {fs:List Fr} {Fs:List Fn} (h:Qg w P fs Fs) {j:Nat} {F:Fn} (hj:Fs[j]?=some F):∃ f,fs[j]?=some f/\Gm w P f F:=by
 have hl:=h.len
 have hlt:=(List.getElem?_eq_some_iff.1 hj).1
 obtain⟨F',e,hF⟩:=h.get (f:=fs[j]'(by omega)) (List.getElem?_eq_getElem (by omega))
 rw[hj] at e
 injection e with e
 subst e
 exact⟨_,List.getElem?_eq_getElem (by omega),hF⟩
theorem Ud.fmtF_le {w:World} {gs:List (Bt×Int)} {fs:List Fr} {Fs:List Fn} {aa ab:Option Addr} {ca cb:Nat} (h:Ud w gs fs Fs aa ca ab cb):∀ F∈Fs,(Ws F).length<=9200:=by
 intro F hF
 obtain⟨j,hj,e⟩:=List.mem_iff_getElem.1 hF
 obtain⟨f,hf,hFn⟩:=h.fns.get2 (j:=j) (F:=F) (by rw[List.getElem?_eq_getElem hj,e])
 exact(Ns hFn (h.fok f (List.mem_of_getElem? hf))).1
theorem Ud.len {w:World} {gs:List (Bt×Int)} {fs:List Fr} {Fs:List Fn} {aa ab:Option Addr} {ca cb:Nat} (h:Ud w gs fs Fs aa ca ab cb):(Nn gs Fs).length<=37000:=by
 have h1:=Wc Wr 40 gs (λ x hx=>Nr x (h.gok x hx))
 have h2:=Wc Ws 9200 Fs h.fmtF_le
 have h3:=h.fns.len
 have h4:=h.gn
 have h5:=h.f4
 have h6:gs.length*40<=4*40:=Nat.mul_le_mul_right _ h4
 have h7:Fs.length*9200<=4*9200:=Nat.mul_le_mul_right _ (by omega)
 unfold Nn
 rw[List.length_append]
 omega
theorem Fl {w:World} {gs:List (Bt×Int)} {fs:List Fr} {Fs:List Fn} {aa ab:Option Addr} {ca cb:Nat} (h:Ud w gs fs Fs aa ca ab cb) (i:Nat):((gs.take i).flatMap Wr).length<=160:=by
 have h1:=Wc Wr 40 (gs.take i) (λ x hx=>Nr x (h.gok x (List.mem_of_mem_take hx)))
 have h2:(gs.take i).length<=4:=by rw[List.length_take];have:=h.gn;omega
 have h3:(gs.take i).length*40<=4*40:=Nat.mul_le_mul_right _ h2
 omega
theorem Ft {w:World} {gs:List (Bt×Int)} {fs:List Fr} {Fs:List Fn} {aa ab:Option Addr} {ca cb:Nat} (h:Ud w gs fs Fs aa ca ab cb) (i:Nat):((Fs.take i).flatMap Ws).length<=36800:=by
 have h1:=Wc Ws 9200 (Fs.take i) (λ x hx=>h.fmtF_le x (List.mem_of_mem_take hx))
 have h2:(Fs.take i).length<=4:=by rw[List.length_take];have:=h.f4;have:=h.fns.len;omega
 have h3:(Fs.take i).length*9200<=4*9200:=Nat.mul_le_mul_right _ h2
 omega
theorem Rk (w:World) (gs:List (Bt×Int)) (fs:List Fr) (Fs:List Fn) (aa ab:Option Addr) (ca cb:Nat) (h:Ud w gs fs Fs aa ca ab cb) :
  Calls Tryz.prog 14 #[.agg #[.slice aa gs.length ca,.slice ab fs.length cb]] w λ e w'=>e=.returned (.string (st (Nn gs Fs)))/\Below w.heap.size w w':=by
 have hb0:=Xw w (.cells #[.slice aa gs.length ca,.slice ab fs.length cb] 29)
 have hr0:=heap_alloc_new w (.cells #[.slice aa gs.length ca,.slice ab fs.length cb] 29)
 have H1:=Xj (h.below hb0)
 have hgn:=h.gn
 have hfn:=h.f4
 have hgc:=h.gcap
 have hfc:=h.fcap
 obtain⟨NG,hNG⟩:∃ N,gs.length=N:=⟨_,rfl⟩
 obtain⟨NF,hNF⟩:∃ N,fs.length=N:=⟨_,rfl⟩
 rw[hNG] at hgn hgc hb0 hr0 H1 ⊢
 rw[hNF] at hfn hfc hb0 hr0 H1 ⊢
 have HNG:=Xj hNG
 have HNF:=Xj hNF
 have HFL:Xq (Fs.length=NF):=Xj (by rw[<- h.fns.len,hNF])
 clear hNG hNF h
 go_enter Tryz.func14,Tryz.ntmps14
 go_upto_region 1 with fail
 obtain⟨w1,hw1⟩:∃ W,w.alloc (.cells #[.slice aa NG ca,.slice ab NF cb] 29)=W:=⟨_,rfl⟩
 obtain⟨g,hg⟩:∃ x,w.heap.size=x:=⟨_,rfl⟩
 rw[hw1] at hb0 hr0 H1 ⊢
 rw[hg] at hr0
 (try rw[hg])
 have HB1:=Xj hb0
 have HR1:=Xj hr0
 have hlt1:=Xv hr0
 have HL1:=Xj hlt1
 have HSZ:=Xj hg
 clear hw1 hb0 hr0 hlt1 hg
 go_upto_block 0 with fail
 go_wp2_with fail
 go_loopw [3,4] (λ v3 v4 wr=>∃ i:Nat,i<=NG/\v3=.string (st ((gs.take i).flatMap Wr))/\v4=.int .i64 i/\Xq (Below w1.heap.size w1 wr)) (λ _ v4 _=>NG-(intOf v4).toNat)
 case atStart=>exact⟨0,by omega,rfl,rfl,Xj (Below.refl _ _)⟩
 rename World=>wa
 obtain⟨i,hi,rfl,rfl,HR⟩:=hrel
 have hrw:=(HR.o.block g HL1.o).trans HR1.o
 have c0:=cell_of_row _ g 0 _ _ _ hrw
 have c1:=cell_of_row _ g 1 _ _ _ hrw
 have hPl:=Fl H1.o i
 by_cases hlt:i<NG
 ·have hlt':i<gs.length:=by rw[HNG.o];exact hlt
  obtain⟨x,hx⟩:∃ x,gs[i]?=some x:=⟨_,List.getElem?_eq_getElem hlt'⟩
  have hok:=H1.o.gok x (List.mem_of_getElem? hx)
  have HT:=Xj (Hz Wr gs i x hx)
  obtain⟨e1,e2⟩:=Sq gs i x hx
  obtain⟨b,off,rfl,_,hbb,hjx⟩:=H1.o.gat (λ e=>by rw[e] at e1;simp at e1)
  have k0:wa.cell? ⟨b,off+i*2,none⟩=some (.string (st x.1)):=(HR.o.cell (p:=⟨b,off+i*2,none⟩) hbb).trans (hjx _ _ e1)
  have k1:wa.cell? ⟨b,off+i*2+1,none⟩=some (.int .i64 x.2):=by rw[Nat.add_assoc];exact(HR.o.cell (p:=⟨b,off+(i*2+1),none⟩) hbb).trans (hjx _ _ e2)
  have hxl:=hok.1.len
  obtain⟨z,hz⟩:∃ z:Nat,x.2=z:=Int.eq_ofNat_of_zero_le hok.2.1
  have hz5:z<=5:=by have:=hok.2.2;omega
  rw[hz] at k1
  have hdl:=Zk (n:=z) (by omega)
  have HG1:Xq (Wr x=[103,108,111,98,97,108,32]++(x.1++((if 0<z then [91]++(Lib.decDigits z++[93]) else [])++[59,10]))):=Xj (by unfold Wr;rw[hz];by_cases h0:0<z<;>simp[h0])
  obtain⟨P,hP⟩:∃ P,(gs.take i).flatMap Wr=P:=⟨_,rfl⟩
  rw[hP] at hPl ⊢
  have HP:=Xj hP
  obtain⟨nm,hnm⟩:∃ nm,x.1=nm:=⟨_,rfl⟩
  rw[hnm] at k0 hxl HG1
  clear hx hok e1 e2 hjx hrw hP hnm hz hlt'
  have hst:=Qq
  by_cases hz0:0<z
  ·have d0:decide ((0:Int)<(z:Int))=true:=by rw[decide_eq_true_iff];omega
   have d1:decide (0<z)=true:=by rw[decide_eq_true_iff];omega
   have hGG:=HG1.o
   rw[if_pos hz0] at hGG
   have HG2:=Xj hGG
   clear hGG
   go_wp2_with fail
   refine(Zy z (by omega) _).mono ?_
   rintro e w2 ⟨rfl,hb2⟩
   obtain⟨D,hD⟩:∃ D,Lib.decDigits z=D:=⟨_,rfl⟩
   rw[hD] at hdl HG2 ⊢
   go_wp2_with fail
   go_roundw
   case rel=>exact⟨i+1,by omega,(by rw[HT.o,HP.o,HG2.o];simp[List.append_assoc]),by go_num,Xj (HR.o.trans (hb2.mono HR.o.size))⟩
   simp[intOf];omega
  have d0:decide ((0:Int)<(z:Int))=false:=by rw[decide_eq_false_iff_not];omega
  have d1:decide (0<z)=false:=by rw[decide_eq_false_iff_not];omega
  have hGG:=HG1.o
  rw[if_neg hz0] at hGG
  have HG2:=Xj hGG
  clear hGG
  go_wp2_with fail
  go_roundw
  case rel=>exact⟨i+1,by omega,(by rw[HT.o,HP.o,HG2.o];simp[List.append_assoc]),by go_num,HR⟩
  simp[intOf];omega
 obtain rfl:i=NG:=by omega
 have HGE:Xq (gs.take i=gs):=Xj (by rw[<- HNG.o,List.take_length])
 obtain⟨P,hP⟩:∃ P,(gs.take i).flatMap Wr=P:=⟨_,rfl⟩
 have HP:Xq (gs.flatMap Wr=P):=Xj (by rw[<- hP,HGE.o])
 rw[hP] at hPl ⊢
 clear hP hrw
 have HC0:=Xj c0
 have HC1:=Xj c1
 go_upto_block 2 with fail
 go_wp2_with fail
 go_loopw [3,5] (λ v3 v5 ws=>∃ j:Nat,j<=NF/\v3=.string (st (P++(Fs.take j).flatMap Ws))/\v5=.int .i64 j/\Xq (Below wa.heap.size wa ws)) (λ _ v5 _=>NF-(intOf v5).toNat)
 case atStart=>exact⟨0,by omega,(by simp),rfl,Xj (Below.refl _ _)⟩
 rename World=>ws
 obtain⟨j,hj,rfl,rfl,HS⟩:=hrel
 have HBS:=Xj (HR.o.trans (HS.o.mono HR.o.size))
 have hrw:=(HBS.o.block g HL1.o).trans HR1.o
 clear c0 c1
 have c0:=cell_of_row _ g 0 _ _ _ hrw
 have c1:=cell_of_row _ g 1 _ _ _ hrw
 have hQl:=Ft H1.o j
 by_cases hlt:j<NF
 ·obtain⟨F,hF⟩:∃ F,Fs[j]?=some F:=⟨_,List.getElem?_eq_getElem (by rw[HFL.o];exact hlt)⟩
  obtain⟨f,hf,hFn⟩:=H1.o.fns.get2 hF
  have hfk:=H1.o.fok f (List.mem_of_getElem? hf)
  obtain⟨hl1,hl2,hl3,hl4,hl5⟩:=Ns hFn hfk
  have HT:=Xj (Hz Ws Fs j F hF)
  obtain⟨e0,e1,e2,e3⟩:=Sz fs j f hf
  obtain⟨b,off,rfl,_,hbb,hjx⟩:=H1.o.fat (λ e=>by rw[e] at e1;simp at e1)
  have kk:∀ q u,(frc fs)[j*4+q]?=some u->ws.cell? ⟨b,off+(j*4+q),none⟩=some u:=λ q u hq=>(HBS.o.cell (p:=⟨b,off+(j*4+q),none⟩) hbb).trans (hjx _ _ hq)
  obtain⟨fnm,fpa,fpn,fpc,fba,fbn,fbc⟩:=f
  obtain⟨n1,n2,n3,n4,n5,n6,n7,n8,n9,n10,n11,n12⟩:=hFn
  dsimp only at n1 n2 n3 n4 n5 n6 n7 n8 e0 e1 e2 e3
  subst n1
  subst n2
  obtain⟨sa,sc,srw,se,s1,s2,s3,s4,s5⟩:=id n8
  injection se with se1 se2 se3
  subst se1 se2 se3
  obtain⟨fnm,fps,fbd⟩:=F
  dsimp only at *
  have k0:ws.cell? ⟨b,off+j*4,none⟩=some (.string (st fnm)):=kk 0 _ e0
  have k1:ws.cell? ⟨b,off+j*4+1,none⟩=some (.int .i64 0):=by rw[Nat.add_assoc];exact kk 1 _ e1
  have k2:ws.cell? ⟨b,off+j*4+2,none⟩=some (.slice fpa fps.length fpc):=by rw[Nat.add_assoc];exact kk 2 _ e2
  have k3:ws.cell? ⟨b,off+j*4+3,none⟩=some (.slice fba fbd.len fbc):=by rw[Nat.add_assoc];exact kk 3 _ e3
  have HBD:=Xj ((Ol fbd n9 (by omega)).1)
  have hbdl:=Vh fbd n9 1 (by omega)
  have HNS:Xq (fbd.nst+1<=10):=Xj hl2
  have hb2:=Xw ws (.cells #[.string (st fnm),.int .i64 0,.slice fpa fps.length fpc,.slice fba fbd.len fbc] 63)
  have hr2:=heap_alloc_new ws (.cells #[.string (st fnm),.int .i64 0,.slice fpa fps.length fpc,.slice fba fbd.len fbc] 63)
  have HST:=Xj ((n8.belowT HBS.o).belowT hb2)
  have HPS:=Xj ((n6.keep (Q:=λ _=>True) (λ b _ hlt=>⟨HBS.o.block b hlt,trivial⟩) HBS.o.size).keep (Q:=λ _=>True) (λ b _ hlt=>⟨hb2.block b hlt,trivial⟩) hb2.size)
  obtain⟨Q,hQ⟩:∃ Q,(Fs.take j).flatMap Ws=Q:=⟨_,rfl⟩
  rw[hQ] at hQl ⊢
  have HQ:=Xj hQ
  have HL5:=Xj hl5
  have hbc:fbd.cst<=9100:=n10
  obtain⟨np,hnp⟩:∃ np,fps.length=np:=⟨_,rfl⟩
  rw[hnp] at k2 n3 hl4 hb2 hr2 HST HPS
  have HNP:=Xj hnp
  have hnp4:np<=fpc/\fpc<=maxLen:=⟨n3,n4⟩
  clear e0 e1 e2 e3 kk hjx hF hf hfk hl1 hl2 hl5 n3 n4 n5 n6 n7 n8 n9 n10 n11 n12 s1 s2 s3 s4 s5 hQ hrw hnp
  have hst:=Qq
  go_upto_region 13 with fail
  obtain⟨w2,hw2⟩:∃ W,ws.alloc (.cells #[.string (st fnm),.int .i64 0,.slice fpa np fpc,.slice fba fbd.len fbc] 63)=W:=⟨_,rfl⟩
  obtain⟨g2,hg2⟩:∃ x,ws.heap.size=x:=⟨_,rfl⟩
  rw[hw2] at hb2 hr2 HST HPS ⊢
  rw[hg2] at hr2
  (try rw[hg2])
  have HB2:=Xj (HS.o.trans (hb2.mono HS.o.size))
  have HR2:=Xj hr2
  have q0:=cell_of_row _ g2 0 _ _ _ hr2
  have HL2:=Xj (Xv hr2)
  clear hw2 hg2 hb2 hr2 c0 c1 k0 k1 k2 k3
  go_upto_block 4 with fail
  go_wp2_with fail
  have dlt:decide ((j:Int)<(NF:Int))=true:=by rw[decide_eq_true_iff];omega
  go_loopw [3,7] (λ v3 v7 wt=>∃ k:Nat,k<=np/\v3=.string (st (P++(Q++([102,117,110,99,32]++(fnm++([40]++Qb (fps.take k)))))))/\v7=.int .i64 k/\Xq (Below w2.heap.size w2 wt)) (λ _ v7 _=>np-(intOf v7).toNat)
  case atStart=>exact⟨0,by omega,(by simp[Qb,List.append_assoc]),rfl,Xj (Below.refl _ _)⟩
  rename World=>wt
  obtain⟨k,hk,rfl,rfl,HT2⟩:=hrel
  have hr3:=(HT2.o.block g2 HL2.o).trans HR2.o
  clear q0
  have q0:=cell_of_row _ g2 0 _ _ _ hr3
  have q2:=cell_of_row _ g2 2 _ _ _ hr3
  have q3:=cell_of_row _ g2 3 _ _ _ hr3
  have hcl:(Qb (fps.take k)).length<=12:=by
   have h1:=Hm (fps.take k) (λ p hp=>HL5.o p (List.mem_of_mem_take hp))
   have h2:(fps.take k).length<=2:=by rw[List.length_take,HNP.o];omega
   omega
  clear hr3
  by_cases hltk:k<np
  ·obtain⟨p,hp⟩:∃ p,fps[k]?=some p:=⟨_,List.getElem?_eq_getElem (by rw[HNP.o];exact hltk)⟩
   have hpl:=HL5.o p (List.mem_of_getElem? hp)
   have HCT:=Xj (Pt fps k p hp)
   have hgs:=Rp fps k p hp
   obtain⟨b2,off2,rfl,_,hb2b,hvv⟩:=HPS.o (λ e=>by rw[e] at hgs;simp at hgs)
   have k0:wt.cell? ⟨b2,off2+k,none⟩=some (.string (st p)):=(HT2.o.cell (p:=⟨b2,off2+k,none⟩) hb2b).trans (hvv _ _ hgs)
   obtain⟨C,hC⟩:∃ C,Qb (fps.take k)=C:=⟨_,rfl⟩
   rw[hC] at hcl ⊢
   have HC:=Xj hC
   clear hp hgs hvv hC
   by_cases hk0:k=0
   ·subst hk0
    have HCC:Xq (Qb (fps.take 1)=p/\C=[]):=Xj ⟨by have:=HCT.o;rw[if_pos rfl] at this;exact this,by rw[<- HC.o];rfl⟩
    rw[Nat.add_zero] at k0
    go_wp2_with fail
    go_roundw
    case rel=>exact⟨1,by omega,(by rw[HCC.o.1,HCC.o.2];simp[List.append_assoc]),by go_num,HT2⟩
    simp[intOf];omega
   have hip:decide ((0:Int)<(k:Int))=true:=by rw[decide_eq_true_iff];omega
   have hip2:decide (0<k)=true:=by rw[decide_eq_true_iff];omega
   have hip3:0<k:=by omega
   have HCC:Xq (Qb (fps.take (k+1))=C++([44,32]++p)):=Xj (by have:=HCT.o;rw[if_neg hk0,HC.o] at this;exact this)
   clear hk0
   go_wp2_with fail
   go_roundw
   case rel=>exact⟨k+1,by omega,(by rw[HCC.o];simp[List.append_assoc]),by go_num,HT2⟩
   simp[intOf];omega
  obtain rfl:k=np:=by omega
  have HFE:Xq (fps.take k=fps):=Xj (by rw[<- HNP.o,List.take_length])
  obtain⟨C,hC⟩:∃ C,Qb (fps.take k)=C:=⟨_,rfl⟩
  rw[hC] at hcl ⊢
  have HC:Xq (Qb fps=C):=Xj (by rw[<- hC,HFE.o])
  clear hC
  go_wp2_with fail
  refine(HBD.o.call (n:=1) (t:=[9]) rfl HNS.o _ (HST.o.belowT HT2.o)).mono ?_
  rintro e w4 ⟨rfl,hb4⟩
  have HB4:=Xj (HB2.o.trans ((HT2.o.mono HB2.o.size).trans (hb4.mono (Nat.le_trans HB2.o.size HT2.o.size))))
  obtain⟨B,hB⟩:∃ B,Qy fbd 1=B:=⟨_,rfl⟩
  rw[hB] at hbdl ⊢
  have HBB:=Xj hB
  clear hB hb4
  go_wp2_with fail
  go_roundw
  case rel=>exact⟨j+1,by omega,(by rw[HT.o,HQ.o];unfold Ws;rw[HC.o,HBB.o];simp[List.append_assoc]),by go_num,HB4⟩
  simp[intOf];omega
 obtain rfl:j=NF:=by omega
 have HFE:Xq (Fs.take j=Fs):=Xj (by rw[<- HFL.o,List.take_length])
 obtain⟨Q,hQ⟩:∃ Q,(Fs.take j).flatMap Ws=Q:=⟨_,rfl⟩
 rw[hQ] at hQl ⊢
 have HQ:Xq (Fs.flatMap Ws=Q):=Xj (by rw[<- hQ,HFE.o])
 clear hQ
 have hst:=Qq
 go_wp2_with fail
 refine bodyPost_ret (v:=.string (st (P++Q))) (by simp[results,Tryz.results14,go_sem]) rfl ?_
 exact⟨by unfold Nn;rw[HP.o,HQ.o],HB1.o.trans (HBS.o.mono HB1.o.size)⟩
def Fz (gc:Nat) (w:World) (e:Ending) (w':World):Prop :=
 ∃ (wx:World) (gs:List (Bt×Int)) (fs:List Fr) (Fs:List Fn) (aa:Option Addr) (ca:Nat) (ab:Option Addr) (cb:Nat),e=.returned (.string (st (Nn gs Fs)))/\Cod w' gc/\w.grownBy w' (some gc)/\Ud wx gs fs Fs aa ca ab cb
theorem My (gc:Nat) (w:World) (h:Cod w gc):Calls Tryz.prog 22 #[.pointer (some ⟨gc,0,none⟩)] w (Fz gc w):=by
 have HC:=Xj h
 clear h
 go_enter Tryz.func22,Tryz.ntmps22
 go_wp2_with fail
 refine(Rz gc _ HC.o).mono ?_
 intro e w1 hp
 obtain⟨gs,fs,Fs,aa,ca,ab,cb,rfl,hc1,hg1,hs1⟩:=Ud.of_post hp
 have HC1:=Xj hc1
 have HG1:=Xj hg1
 have HS1:=Xj hs1
 clear hp hc1 hg1 hs1
 go_wp2_with fail
 refine(Rk _ gs fs Fs aa ab ca cb HS1.o).mono ?_
 rintro e w2 ⟨rfl,hb2⟩
 have HB2:=Xj hb2
 obtain⟨X,hX⟩:∃ X,Nn gs Fs=X:=⟨_,rfl⟩
 have HX:=Xj hX
 rw[hX]
 clear hX hb2
 go_wp2_with fail
 refine bodyPost_ret (v:=.string (st X)) (by simp[results,Tryz.results22,go_sem]) rfl ?_
 exact⟨w1,gs,fs,Fs,aa,ca,ab,cb,by rw[HX.o],HC1.o.below HB2.o HC1.o.lt,Xb HG1.o (Xg HB2.o _),HS1.o⟩
end Go.Proofs.YtldgghnjminhiaaGreatDoor
