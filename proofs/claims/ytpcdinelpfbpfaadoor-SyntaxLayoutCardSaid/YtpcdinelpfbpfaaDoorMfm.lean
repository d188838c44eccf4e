/-
  PLAIN WORDS: the texts of trees, as chapter 5's reference writes them. No walk. (Filled in from a template of this repo.)
  WALKS of the small functions of chapter 5's reference: sign, compound, operand, list. (Filled in from a template of this repo.)
  WALK of Expr of chapter 5's reference. (Filled in from a template of this repo, printed by mk_fme.py.)
  WALK of Expr at every right tree: the induction. (Filled in from a template of this repo.)
  PLAIN WORDS: the texts of statements and of sources, as chapter 5's reference writes them. No walk. (Filled in from a template of this repo.)
  WALK of value (chapter 5's reference). (Filled in from a template of this repo.)
  PLAIN WORDS: how long the texts of statements and of sources are. No walk. (Filled in from a template of this repo.)
  WALK of block (chapter 5's reference). (Filled in from a template of this repo, printed by mk_fmb.py.)
  WALK of Format (chapter 5's reference), and of Text. (Filled in from a template of this repo.)
-/
import Derived.Test.YtpcdinelpfbpfaaDoorMdo
import Derived.Test.YtpcdinelpfbpfaaDoorMdb
namespace Go.Proofs.YtpcdinelpfbpfaaDoor
open Go.ChangeShapes Go.WideShapes Go.ChangeAt Go.RowKit
set_option linter.unusedVariables false
set_option linter.unusedSimpArgs false

def sgnL:List Bt:=[[],[45],[33],[43],[45],[42],[47],[37],[60],[60,61],[61,61],[33,61]]
def sgn (op:Int):Bt:=if op<0 then [] else sgnL.getD op.toNat []
theorem sgn_len (op:Int):(sgn op).length<=2:=by
 unfold sgn
 split
 ·simp
 ·by_cases h:op.toNat<12
  ·have:op.toNat=0\/op.toNat=1\/op.toNat=2\/op.toNat=3\/op.toNat=4\/op.toNat=5\/op.toNat=6\/op.toNat=7\/op.toNat=8\/op.toNat=9\/op.toNat=10\/op.toNat=11:=by omega
   rcases this with e | e | e | e | e | e | e | e | e | e | e | e <;> rw [e] <;> decide
  ·have e:sgnL[op.toNat]?=none:=List.getElem?_eq_none (by show 12<=_;omega)
   rw [List.getD,e];simp
def cmpd (h:Hd):Bool:=decide (h.k=5)||decide (h.k=6)||decide (h.k=7)||decide (h.k=8)
def paren (s:Bt):Bt:=40::(s++[41])
def opd (h:Hd) (s:Bt):Bt:=if cmpd h=true then paren s else s
def comm:List Bt->Bt
 | []=>[]
 | [s]=>s
 | s::r=>s++([44,32]++comm r)
def listB (ss:List Bt):Bt:=paren (comm ss)
def fmt1 (h:Hd) (os:List (Hd×Bt)):Bt :=
 if h.k=1 then Lib.decDigits h.v.toNat
 else if h.k=13\/h.k=2\/h.k=3 then h.nm
 else if h.k=12 then [114,101,97,100]
 else if h.k=11 then 38::h.nm
 else if h.k=4 then (match os with | [a]=>h.nm++([91]++(a.2++[93])) | _=>[])
 else if h.k=5 then (match os with | [a]=>sgn h.op++opd a.1 a.2 | _=>[])
 else if h.k=6 then (match os with | [a,b]=>opd a.1 a.2++([32]++(sgn h.op++([32]++opd b.1 b.2))) | _=>[])
 else if h.k=7 then (match os with | [a,b]=>opd a.1 a.2++([32,38,38,32]++opd b.1 b.2) | _=>[])
 else if h.k=8 then (match os with | [a,b]=>opd a.1 a.2++([32,124,124,32]++opd b.1 b.2) | _=>[])
 else if h.k=9 then h.nm++listB (os.map (·.2))
 else if h.k=10 then (match os with | a::r=>(if a.1.k=13\/a.1.k=2\/a.1.k=3 then paren (opd a.1 a.2) else opd a.1 a.2)++listB (r.map (·.2)) | []=>[])
 else []
def fmts:Fo->List (Hd×Bt)
 | .nil=>[]
 | .cons h ar r=>(h,fmt1 h (fmts ar))::fmts r
abbrev fmtE (h:Hd) (ar:Fo):Bt:=fmt1 h (fmts ar)
theorem fmts_len (F:Fo):(fmts F).length=F.len:=by
 induction F with
 | nil=>rfl
 | cons h ar r _ ih=>simp [fmts,Fo.len,ih]
theorem fmts_get (F:Fo) (j:Nat) (x:Hd×Fo) (h:F.get j=some x):(fmts F)[j]?=some (x.1,fmtE x.1 x.2):=by
 induction F generalizing j with
 | nil=>cases h
 | cons hd ar r _ ih =>
  cases j with
  | zero =>
   have e:(hd,ar)=x:=by injection h
   subst e;rfl
  | succ j=>exact ih j h
def tot:List (Hd×Bt)->Nat
 | []=>0
 | a::r=>a.2.length+tot r
theorem opd_len (h:Hd) (s:Bt):(opd h s).length<=s.length+2:=by
 unfold opd paren
 split
 ·simp
 ·omega
theorem comm_len (os:List (Hd×Bt)):(comm (os.map (·.2))).length<=tot os+2 * os.length:=by
 induction os with
 | nil=>simp [comm]
 | cons a r ih =>
  cases r with
  | nil=>simp [comm,tot]
  | cons b r =>
   show (a.2++(([44,32]:Bt)++comm ((b::r).map (fun (x:Hd×Bt)=>x.2)))).length<=a.2.length+tot (b::r)+2 * ((b::r).length+1)
   rw [List.length_append,List.length_append]
   simp only [List.length_cons,List.length_nil] at ih ⊢
   omega
theorem fmt1_len (h:Hd) (ar:Fo) (hok:okH h ar) (os:List (Hd×Bt)) (ho:os.length=ar.len):(fmt1 h os).length<=own h ar.len+tot os:=by
 unfold fmt1 own
 by_cases k1:h.k=1
 ·rw [if_pos k1,if_pos k1]
  rcases hok with hok | hok | hok
  ·omega
  ·have:=dec_len19 (n:=h.v.toNat) (by omega);omega
  ·omega
 rw [if_neg k1,if_neg k1]
 have hnm:h.nm.length<=4:=by
  rcases hok with⟨_,_,hok⟩ | ⟨_,_,hok,_⟩ | ⟨_,hok,_⟩
  ·rcases hok with⟨_,hok,_⟩ | ⟨_,hok,_⟩ | ⟨_,hok,_⟩ | ⟨_,hok,_⟩ | ⟨_,hok,_⟩ | ⟨_,hok,_⟩ | ⟨_,hok,_⟩ <;> first | (obtain⟨_,_,_,_,_,_,hl⟩:=hok;exact hl) | (rw [hok];simp)
  ·rw [hok];simp
  ·rw [hok];simp
 have hlen3:os.length<=3:=by
  rw [ho]
  rcases hok with⟨_,_,hok⟩ | ⟨_,_,_,_,_,hok⟩ | ⟨_,_,hok⟩
  ·rcases hok with⟨_,_,hok⟩ | ⟨_,_,hok⟩ | ⟨_,_,hok⟩ | ⟨_,_,hok⟩ | ⟨_,_,hok⟩ | ⟨_,_,hok⟩ | ⟨_,_,g,bs,r,hok,_,hr⟩ <;> first | (subst hok;simp [Fo.len];done) | (subst hok;simp only [Fo.len];omega) | omega
  ·subst hok;simp [Fo.len]
  ·omega
 have hsl:=sgn_len h.op
 by_cases k13:h.k=13
 ·rw [if_pos (.inl k13),if_pos k13];omega
 by_cases k2:h.k=13\/h.k=2\/h.k=3
 ·rw [if_pos k2,if_neg k13]
  by_cases e:h.k=12
  ·omega
  ·rw [if_neg e]
   split <;> omega
 rw [if_neg k2,if_neg k13]
 by_cases k12:h.k=12
 ·rw [if_pos k12,if_pos k12];simp;omega
 rw [if_neg k12,if_neg k12]
 by_cases k11:h.k=11
 ·rw [if_pos k11,if_pos k11];simp;omega
 rw [if_neg k11,if_neg k11]
 have hop:=opd_len
 split
 ·split
  ·simp [tot];omega
  ·simp
 split
 ·split
  ·rename_i a
   have:=opd_len a.1 a.2
   simp [tot];omega
  ·simp
 split
 ·split
  ·rename_i a b
   have:=opd_len a.1 a.2
   have:=opd_len b.1 b.2
   simp [tot];omega
  ·simp
 split
 ·split
  ·rename_i a b
   have:=opd_len a.1 a.2
   have:=opd_len b.1 b.2
   simp [tot];omega
  ·simp
 split
 ·split
  ·rename_i a b
   have:=opd_len a.1 a.2
   have:=opd_len b.1 b.2
   simp [tot];omega
  ·simp
 split
 ·have:=comm_len os
  simp [listB,paren];omega
 split
 ·split
  ·rename_i a r
   have h1:=opd_len a.1 a.2
   have h2:=comm_len r
   simp only [List.length_cons] at hlen3
   have h3:(if a.1.k=13\/a.1.k=2\/a.1.k=3 then paren (opd a.1 a.2) else opd a.1 a.2).length<=a.2.length+4:=by
    split
    ·simp [paren];omega
    ·omega
   simp only [List.length_append,listB,paren,List.length_cons,List.length_nil,tot] at h3 ⊢
   omega
  ·simp
 ·simp
theorem fmts_cst (F:Fo) (hw:F.wf):tot (fmts F)<=F.cst:=by
 induction F with
 | nil=>exact Nat.le_refl _
 | cons h ar r ih1 ih2 =>
  have h1:=ih1 hw.2.2.1
  have h2:=ih2 hw.2.2.2
  have h3:=fmt1_len h ar hw.1 (fmts ar) (fmts_len ar)
  show (fmt1 h (fmts ar)).length+tot (fmts r)<=own h ar.len+ar.cst+r.cst
  omega
theorem fmtE_len (h:Hd) (ar:Fo) (hok:okH h ar) (hw:ar.wf):(fmtE h ar).length<=own h ar.len+ar.cst:=by
 have h1:=fmts_cst ar hw
 have h3:=fmt1_len h ar hok (fmts ar) (fmts_len ar)
 show (fmt1 h (fmts ar)).length<=_
 omega
end Go.Proofs.YtpcdinelpfbpfaaDoor
namespace Go.Proofs.YtpcdinelpfbpfaaDoor
open Go.ChangeShapes Go.WideShapes Go.ChangeAt Go.RowKit
set_option linter.unusedVariables false
set_option linter.unusedSimpArgs false

theorem st_app (x y:Bt):st x++st y=st (x++y):=by apply ByteArray.ext;simp [ByteArray.data_append]
set_option maxRecDepth 100000 in
set_option maxHeartbeats 4000000 in
theorem sign_any (op:Int) (h0:0<=op) (h1:op<=11) (w:World):Calls Tryd.prog 56 #[.int .i64 op] w fun e w'=>e=.returned (.string (st (sgn op)))/\Below w.heap.size w w':=by
 obtain⟨n,rfl⟩:=Int.eq_ofNat_of_zero_le h0
 have hn:n<12:=by omega
 have hb:=below_alloc w (.cells (strs sgnL).toArray 9)
 have hr:=heap_alloc_new w (.cells (strs sgnL).toArray 9)
 have hc:(w.alloc (.cells (strs sgnL).toArray 9)).cell? ⟨w.heap.size,n,none⟩=some (.string (st (sgn n))):=by
  rw [cell_of_row _ w.heap.size n _ _ _ hr,List.getElem?_toArray]
  have:n=0\/n=1\/n=2\/n=3\/n=4\/n=5\/n=6\/n=7\/n=8\/n=9\/n=10\/n=11:=by omega
  rcases this with rfl | rfl | rfl | rfl | rfl | rfl | rfl | rfl | rfl | rfl | rfl | rfl <;> rfl
 obtain⟨w1,hw1⟩ : ∃ W,w.alloc (.cells (strs sgnL).toArray 9)=W:=⟨_,rfl⟩
 obtain⟨g,hg⟩ : ∃ x,w.heap.size=x:=⟨_,rfl⟩
 have HW:=Lib.hid (And.intro hw1 hg)
 rw [hw1,hg] at hc
 rw [hw1] at hb
 have HB:=Lib.hid hb
 have HCC:=Lib.hid hc
 clear hr hw1 hg hb hc
 have n0:(0:Int)<=(n:Int):=by omega
 have n1:(n:Int)<12:=by omega
 go_enter Tryd.func56,Tryd.ntmps56
 go_upto_region 2 with fail
 (try rw [show w.alloc (.cells #[.string (st []),.string (st [45]),.string (st [33]),.string (st [43]),.string (st [45]),.string (st [42]),.string (st [47]),.string (st [37]),.string (st [60]),.string (st [60,61]),.string (st [61,61]),.string (st [33,61])] 9)=w1 from HW.out.1])
 rw [HW.out.2]
 have hc:=HCC.out
 go_wp2_with fail
 refine bodyPost_ret (v:=.string (st (sgn n))) (by simp [results,Tryd.results56,go_sem]) rfl ?_
 exact⟨rfl,HB.out⟩
set_option maxRecDepth 100000 in
theorem compound_any (h:Hd) (a:Option Addr) (n c:Nat) (w:World):Calls Tryd.prog 72 #[exv h (.slice a n c)] w fun e w'=>e=.returned (.bool (cmpd h))/\Below w.heap.size w w':=by
 obtain⟨p0,p1,p2,p3,p4,p5⟩:=cells6 (heap_alloc_new w (.cells #[.int .i64 h.k,.int .i64 h.op,.int .i64 h.v,.int .i64 h.ln,.string (st h.nm),.slice a n c] 40))
 have HK:Hid (cmpd h=((h.k==5)||(h.k==6)||(h.k==7)||(h.k==8))):=Lib.hid rfl
 cases e5:(h.k==5)
 ·cases e6:(h.k==6)
  ·cases e7:(h.k==7)
   ·have HE:Hid (cmpd h=(h.k==8)):=Lib.hid (by rw [HK.out,e5,e6,e7];rfl)
    go_enter Tryd.func72,Tryd.ntmps72
    go_wp2_with fail
    go_ret
    exact⟨by rw [HE.out];rfl,below_alloc _ _⟩
   ·have HE:Hid (cmpd h=true):=Lib.hid (by rw [HK.out,e5,e6,e7];rfl)
    go_enter Tryd.func72,Tryd.ntmps72
    go_wp2_with fail
    go_ret
    exact⟨by rw [HE.out];rfl,below_alloc _ _⟩
  ·have HE:Hid (cmpd h=true):=Lib.hid (by rw [HK.out,e5,e6];rfl)
   go_enter Tryd.func72,Tryd.ntmps72
   go_wp2_with fail
   go_ret
   exact⟨by rw [HE.out];rfl,below_alloc _ _⟩
 ·have HE:Hid (cmpd h=true):=Lib.hid (by rw [HK.out,e5];rfl)
  go_enter Tryd.func72,Tryd.ntmps72
  go_wp2_with fail
  go_ret
  exact⟨by rw [HE.out];rfl,below_alloc _ _⟩
def EOK (h:Hd) (ar:Fo):Prop := ∀ (W:World) (sl:Value),ArgsAt W (fun _=>True) ar sl->Calls Tryd.prog 43 #[exv h sl] W fun e w'=>e=.returned (.string (st (fmtE h ar)))/\Below W.heap.size W w'
theorem ArgsAt.belowT {w w':World} {ar:Fo} {sl:Value} (h:ArgsAt w (fun _=>True) ar sl) (hb:Below w.heap.size w w'):ArgsAt w' (fun _=>True) ar sl:=h.keep (fun b _ hlt=>⟨hb.block b hlt,trivial⟩) hb.size
set_option maxRecDepth 100000 in
set_option maxHeartbeats 4000000 in
theorem operand_of (h:Hd) (ar:Fo) (hE:EOK h ar) (hl:(fmtE h ar).length<=1000000) (w:World) (sl:Value) (ha:ArgsAt w (fun _=>True) ar sl):Calls Tryd.prog 57 #[exv h sl] w fun e w'=>e=.returned (.string (st (opd h (fmtE h ar))))/\Below w.heap.size w w':=by
 have HE:=Lib.hid hE
 have HA0:=Lib.hid ha
 obtain⟨a,c,rws,rfl,_⟩:=ha
 have hb1:=below_alloc w (.cells #[.int .i64 h.k,.int .i64 h.op,.int .i64 h.v,.int .i64 h.ln,.string (st h.nm),.slice a ar.len c] 40)
 have hr1:=heap_alloc_new w (.cells #[.int .i64 h.k,.int .i64 h.op,.int .i64 h.v,.int .i64 h.ln,.string (st h.nm),.slice a ar.len c] 40)
 have HA1:=Lib.hid (HA0.out.belowT hb1)
 clear hE
 go_enter Tryd.func57,Tryd.ntmps57
 go_upto_region 1 with fail
 obtain⟨w1,hw1⟩ : ∃ W,w.alloc (.cells #[.int .i64 h.k,.int .i64 h.op,.int .i64 h.v,.int .i64 h.ln,.string (st h.nm),.slice a ar.len c] 40)=W:=⟨_,rfl⟩
 obtain⟨g,hg⟩ : ∃ x,w.heap.size=x:=⟨_,rfl⟩
 rw [hw1] at hb1 hr1 HA1 ⊢
 rw [hg] at hr1
 (try rw [hg])
 have HB1:=Lib.hid hb1
 have HR1:=Lib.hid hr1
 obtain⟨p0,p1,p2,p3,p4,p5⟩:=cells6 hr1
 clear hw1 hb1 hr1 hg
 go_wp2_with fail
 refine(compound_any h a ar.len c _).mono ?_
 rintro e w2 ⟨rfl,hb2⟩
 have HB2:=Lib.hid (HB1.out.trans (hb2.mono HB1.out.size))
 have HA2:=Lib.hid (HA1.out.belowT hb2)
 obtain⟨s0,s1,s2,s3,s4,s5⟩:=cells6 ((hb2.block g (heap_lt HR1.out)).trans HR1.out)
 clear hb2 p0 p1 p2 p3 p4 p5
 cases hc:cmpd h
 ·have HO:Hid (opd h (fmtE h ar)=fmtE h ar):=Lib.hid (by unfold opd;rw [hc];rfl)
  go_wp2_with fail
  refine(HE.out _ _ HA2.out).mono ?_
  rintro e w3 ⟨rfl,hb3⟩
  have HB3:=Lib.hid (HB2.out.trans (hb3.mono HB2.out.size))
  obtain⟨t,ht⟩ : ∃ t,fmtE h ar=t:=⟨_,rfl⟩
  have HT:=Lib.hid ht
  rw [ht]
  clear ht
  go_wp2_with fail
  refine bodyPost_ret (v:=.string (st t)) (by simp [results,Tryd.results57,go_sem]) rfl ?_
  exact⟨by rw [HO.out,HT.out],HB3.out⟩
 ·have HO:Hid (opd h (fmtE h ar)=paren (fmtE h ar)):=Lib.hid (by unfold opd;rw [hc];rfl)
  go_wp2_with fail
  refine(HE.out _ _ HA2.out).mono ?_
  rintro e w3 ⟨rfl,hb3⟩
  have HB3:=Lib.hid (HB2.out.trans (hb3.mono HB2.out.size))
  obtain⟨t,ht⟩ : ∃ t,fmtE h ar=t:=⟨_,rfl⟩
  have HT:=Lib.hid ht
  rw [ht] at hl ⊢
  clear ht
  have hst:=st_app
  go_wp2_with fail
  refine bodyPost_ret (v:=.string (st (40::(t++[41])))) (by simp [results,Tryd.results57,go_sem]) rfl ?_
  exact⟨by rw [HO.out,HT.out];rfl,HB3.out⟩
theorem FoAt.get {w:World} {P:Nat->Prop} {F:Fo} {cs:List Value} (h:FoAt w P F cs) {j:Nat} {x:Hd×Fo} (hj:F.get j=some x) : ∃ sl,ArgsAt w P x.2 sl /\ ∀ i u,(hdc x.1 sl)[i]?=some u->cs[j * 6+i]?=some u:=by
 induction F generalizing cs j with
 | nil=>cases hj
 | cons hd ar r _ ih =>
  obtain⟨a,cap,rws,cs',rfl,h1,h2,h3,h4,h5,h6⟩:=h
  cases j with
  | zero =>
   have e:(hd,ar)=x:=by injection hj
   subst e
   refine⟨_,⟨a,cap,rws,rfl,h1,h2,h3,h4,h5⟩,fun i u hi=>?_⟩
   have:i<6:=(List.getElem?_eq_some_iff.1 hi).1
   rw [Nat.zero_mul,Nat.zero_add,List.getElem?_append_left (by simpa using this)]
   exact hi
  | succ j =>
   obtain⟨sl,k1,k2⟩:=ih h6 hj
   refine⟨sl,k1,fun i u hi=>?_⟩
   rw [List.getElem?_append_right (by show 6<=_;omega)]
   have e:(j+1) * 6+i - 6=j * 6+i:=by omega
   show cs'[(j+1) * 6+i - 6]?=_
   rw [e]
   exact k2 i u hi
theorem comm_snoc (l:List Bt) (s:Bt):comm (l++[s])=if l=[] then s else comm l++([44,32]++s):=by
 induction l with
 | nil=>rfl
 | cons x l ih =>
  rw [if_neg (by simp)]
  cases l with
  | nil=>rfl
  | cons y l =>
   rw [if_neg (by simp)] at ih
   show x++([44,32]++comm ((y::l)++[s]))=x++([44,32]++comm (y::l))++([44,32]++s)
   rw [ih]
   simp [List.append_assoc]
theorem comm_take (os:List (Hd×Bt)) (i:Nat) (x:Hd×Bt) (h:os[i]?=some x):comm ((os.map (·.2)).take (i+1))=if i=0 then x.2 else comm ((os.map (·.2)).take i)++([44,32]++x.2):=by
 have hi:=(List.getElem?_eq_some_iff.1 h).1
 have e:(os.map (·.2)).take (i+1)=(os.map (·.2)).take i++[x.2]:=by
  rw [List.take_add_one]
  congr 1
  rw [List.getElem?_map,h];rfl
 rw [e,comm_snoc]
 by_cases h0:i=0
 ·subst h0;simp
 ·rw [if_neg h0,if_neg (by
   intro e2
   have h3:((os.map (·.2)).take i).length=i:=by rw [List.length_take,List.length_map];omega
   rw [e2] at h3
   exact h0 h3.symm)]
theorem tot_get (os:List (Hd×Bt)) (i:Nat) (x:Hd×Bt) (h:os[i]?=some x):x.2.length<=tot os:=by
 induction os generalizing i with
 | nil=>simp at h
 | cons a r ih =>
  cases i with
  | zero=>simp at h;subst h;simp [tot]
  | succ i=>have:=ih i (by simpa using h);simp only [tot];omega
theorem comm_take_len (os:List (Hd×Bt)) (i:Nat):(comm ((os.map (·.2)).take i)).length<=tot os+2 * os.length:=by
 have h1:=comm_len (os.take i)
 rw [List.map_take] at h1
 have h2:tot (os.take i)<=tot os:=by
  clear h1
  induction os generalizing i with
  | nil=>simp [tot]
  | cons a r ih =>
   cases i with
   | zero=>simp [tot]
   | succ i=>have:=ih i;simp only [List.take_succ_cons,tot];omega
 have h3:(os.take i).length<=os.length:=by simp;omega
 omega
set_option maxRecDepth 100000 in
set_option maxHeartbeats 4000000 in
theorem list_of (F:Fo) (hE : ∀ j x,F.get j=some x->EOK x.1 x.2) (hl:tot (fmts F)<=1000000) (hn:F.len<=1000) (w:World) (a:Option Addr) (cap:Nat) (cs:List Value) (hs:SlAt w (fun _=>True) a cs) (hF:FoAt w (fun _=>True) F cs) :
  Calls Tryd.prog 58 #[.slice a F.len cap] w fun e w'=>e=.returned (.string (st (listB ((fmts F).map (·.2)))))/\Below w.heap.size w w':=by
 have HE:=Lib.hid hE
 have HS:=Lib.hid hs
 have HFO:=Lib.hid hF
 have hfl:=fmts_len F
 clear hE hs hF
 obtain⟨n,hn2⟩ : ∃ n,F.len=n:=⟨_,rfl⟩
 rw [hn2] at hn hfl ⊢
 have HN:=Lib.hid hn2
 have HFL:=Lib.hid hfl
 clear hn2 hfl
 go_enter Tryd.func58,Tryd.ntmps58
 go_upto_block 0 with fail
 go_wp2_with fail
 go_loopw [3,4] (fun v3 v4 wr => ∃ i:Nat,i<=n/\v3=.string (st (40::comm (((fmts F).map (·.2)).take i)))/\v4=.int .i64 i/\Hid (Below w.heap.size w wr)) (fun _ v4 _=>n - (intOf v4).toNat)
 case atStart=>exact⟨0,by omega,rfl,rfl,Lib.hid (Below.refl _ _)⟩
 case round =>
  obtain⟨i,hi,rfl,rfl,HR⟩:=hrel
  have hcl:=comm_take_len (fmts F) i
  rw [HFL.out] at hcl
  by_cases hlt:i<n
  ·obtain⟨x,hx⟩:=Fo.get_lt (F:=F) (i:=i) (by rw [HN.out];exact hlt)
   obtain⟨sl,ha,hc⟩:=HFO.out.get hx
   have hcs0:=hc 0 _ rfl
   obtain⟨b,off,rfl,_,hb,hcell⟩:=HS.out (fun e=>by rw [e] at hcs0;cases hcs0)
   have hg:=fmts_get F i x hx
   have HCT:=Lib.hid (comm_take (fmts F) i _ hg)
   have hel:=tot_get _ _ _ hg
   have HA:=Lib.hid ((ha.keep (Q:=fun _=>True) (fun b _ hlt=>⟨HR.out.block b hlt,trivial⟩) HR.out.size))
   have hk : ∀ j u,(hdc x.1 sl)[j]?=some u->wr.cell? ⟨b,off+(i * 6+j),none⟩=some u:=fun j u hj=>(HR.out.cell (p:=⟨b,off+(i * 6+j),none⟩) hb).trans (hcell _ _ (hc j u hj))
   obtain⟨asl,csl,_,rfl,-⟩:=ha
   have k0:wr.cell? ⟨b,off+i * 6,none⟩=some (.int .i64 x.1.k):=hk 0 _ rfl
   have k1:wr.cell? ⟨b,off+i * 6+1,none⟩=some (.int .i64 x.1.op):=by rw [Nat.add_assoc];exact hk 1 _ rfl
   have k2:wr.cell? ⟨b,off+i * 6+2,none⟩=some (.int .i64 x.1.v):=by rw [Nat.add_assoc];exact hk 2 _ rfl
   have k3:wr.cell? ⟨b,off+i * 6+3,none⟩=some (.int .i64 x.1.ln):=by rw [Nat.add_assoc];exact hk 3 _ rfl
   have k4:wr.cell? ⟨b,off+i * 6+4,none⟩=some (.string (st x.1.nm)):=by rw [Nat.add_assoc];exact hk 4 _ rfl
   have k5:wr.cell? ⟨b,off+i * 6+5,none⟩=some (.slice asl x.2.len csl):=by rw [Nat.add_assoc];exact hk 5 _ rfl
   have HXE:=Lib.hid (HE.out i x hx)
   obtain⟨t,ht⟩ : ∃ t,fmtE x.1 x.2=t:=⟨_,rfl⟩
   obtain⟨p,hp⟩ : ∃ p,comm (((fmts F).map (·.2)).take i)=p:=⟨_,rfl⟩
   have HTT:=Lib.hid ht
   have HPP:=Lib.hid hp
   have hel2:t.length<=1000000:=by rw [<- ht];exact Nat.le_trans hel hl
   rw [hp] at hcl ⊢
   clear hk hc hcs0 hcell hg hel ht hp hx
   have hst:=st_app
   by_cases hi0:i=0
   ·subst hi0
    rw [Nat.zero_mul,Nat.add_zero] at k0 k1 k2 k3 k4 k5
    have HT1:Hid (comm (((fmts F).map (·.2)).take 1)=p++t):=Lib.hid (by
     have h1:=HCT.out
     rw [if_pos rfl] at h1
     rw [h1,<- HTT.out,<- HPP.out];rfl)
    go_wp2_with fail
    refine(HXE.out _ _ HA.out).mono ?_
    rintro e w2 ⟨rfl,hb2⟩
    have HB2:=Lib.hid (HR.out.trans (hb2.mono HR.out.size))
    rw [HTT.out]
    clear hb2 k0 k1 k2 k3 k4 k5
    go_wp2_with fail
    go_roundw
    case rel=>exact⟨1,by omega,(by rw [HT1.out];try simp),by go_num,HB2⟩
    case measure=>simp [intOf];omega
   ·have hip:decide ((0:Int)<(i:Int))=true:=by rw [decide_eq_true_iff];omega
    have hip2:0<i:=by omega
    have HT1:Hid (comm (((fmts F).map (·.2)).take (i+1))=p++([44,32]++t)):=Lib.hid (by
     have h1:=HCT.out
     rw [if_neg hi0] at h1
     rw [h1,<- HTT.out,<- HPP.out])
    clear hi0
    go_wp2_with fail
    refine(HXE.out _ _ HA.out).mono ?_
    rintro e w2 ⟨rfl,hb2⟩
    have HB2:=Lib.hid (HR.out.trans (hb2.mono HR.out.size))
    rw [HTT.out]
    clear hb2 k0 k1 k2 k3 k4 k5
    go_wp2_with fail
    go_roundw
    case rel=>exact⟨i+1,by omega,(by rw [HT1.out];try simp),by go_num,HB2⟩
    case measure=>simp [intOf];omega
  ·obtain rfl:i=n:=by omega
   have HCE:Hid (comm (((fmts F).map (·.2)).take i)=comm ((fmts F).map (·.2))):=Lib.hid (by rw [List.take_of_length_le (by rw [List.length_map,HFL.out];exact Nat.le_refl _)])
   obtain⟨p,hp⟩ : ∃ p,comm (((fmts F).map (·.2)).take i)=p:=⟨_,rfl⟩
   have HPP:=Lib.hid hp
   rw [hp] at hcl ⊢
   clear hp
   have hst:=st_app
   go_wp2_with fail
   refine bodyPost_ret (v:=.string (st (40::(p++[41])))) (by simp [results,Tryd.results58,go_sem]) rfl ?_
   exact⟨by rw [<- HPP.out,HCE.out];rfl,HR.out⟩
end Go.Proofs.YtpcdinelpfbpfaaDoor
namespace Go.Proofs.YtpcdinelpfbpfaaDoor
open Go.ChangeShapes Go.WideShapes Go.ChangeAt Go.RowKit
set_option linter.unusedVariables false
set_option linter.unusedSimpArgs false

theorem ArgsAt.elem {w:World} {ar:Fo} {a:Option Addr} {c:Nat} (h:ArgsAt w (fun _=>True) ar (.slice a ar.len c)) {j:Nat} {x:Hd×Fo} (hj:ar.get j=some x) :
  ∃ b off asl csl,a=some ⟨b,off,none⟩/\b<w.heap.size/\Hid (ArgsAt w (fun _=>True) x.2 (.slice asl x.2.len csl))/\w.cell? ⟨b,off+j * 6,none⟩=some (.int .i64 x.1.k)/\w.cell? ⟨b,off+j * 6+1,none⟩=some (.int .i64 x.1.op)/\w.cell? ⟨b,off+j * 6+2,none⟩=some (.int .i64 x.1.v)/\w.cell? ⟨b,off+j * 6+3,none⟩=some (.int .i64 x.1.ln)/\w.cell? ⟨b,off+j * 6+4,none⟩=some (.string (st x.1.nm))/\w.cell? ⟨b,off+j * 6+5,none⟩=some (.slice asl x.2.len csl):=by
 obtain⟨a',c',rws,e,h1,h2,h3,h4,h5⟩:=h
 injection e with e1 e2 e3
 subst e1
 obtain⟨sl,ha,hc⟩:=h5.get hj
 obtain⟨b,off,rfl,_,hb,hcell⟩:=h4 (fun e=>by have:=hc 0 _ rfl;rw [e] at this;cases this)
 obtain⟨asl,csl,_,rfl,-⟩:=id ha
 have hk : ∀ i u,(hdc x.1 (.slice asl x.2.len csl))[i]?=some u->w.cell? ⟨b,off+(j * 6+i),none⟩=some u:=fun i u hi=>hcell _ _ (hc i u hi)
 exact⟨b,off,asl,csl,rfl,hb,Lib.hid ha,hk 0 _ rfl,by rw [Nat.add_assoc];exact hk 1 _ rfl,by rw [Nat.add_assoc];exact hk 2 _ rfl,by rw [Nat.add_assoc];exact hk 3 _ rfl,by rw [Nat.add_assoc];exact hk 4 _ rfl,by rw [Nat.add_assoc];exact hk 5 _ rfl⟩
set_option maxRecDepth 100000 in
set_option maxHeartbeats 8000000 in
theorem Expr_name (h:Hd) (ar:Fo) (hkk:h.k=13):EOK h ar:=by
 intro w sl ha
 have HA0:=Lib.hid ha
 obtain⟨a,c,rws,rfl,hlc,hcm,-,-,-⟩:=ha
 have hb1:=below_alloc w (.cells #[.int .i64 h.k,.int .i64 h.op,.int .i64 h.v,.int .i64 h.ln,.string (st h.nm),.slice a ar.len c] 40)
 have hr1:=heap_alloc_new w (.cells #[.int .i64 h.k,.int .i64 h.op,.int .i64 h.v,.int .i64 h.ln,.string (st h.nm),.slice a ar.len c] 40)
 have HA1:=Lib.hid (HA0.out.belowT hb1)
 have HV:Hid (fmtE h ar=h.nm):=Lib.hid (by show fmt1 h (fmts ar)=_;unfold fmt1;simp [hkk])
 have HKK:=Lib.hid hkk
 clear hkk
 go_enter Tryd.func43,Tryd.ntmps43
 go_upto_region 1 with fail
 obtain⟨w1,hw1⟩ : ∃ W,w.alloc (.cells #[.int .i64 h.k,.int .i64 h.op,.int .i64 h.v,.int .i64 h.ln,.string (st h.nm),.slice a ar.len c] 40)=W:=⟨_,rfl⟩
 obtain⟨g,hg⟩ : ∃ x,w.heap.size=x:=⟨_,rfl⟩
 rw [hw1] at hb1 hr1 HA1 ⊢
 rw [hg] at hr1
 (try rw [hg])
 have HB1:=Lib.hid hb1
 obtain⟨p0,p1,p2,p3,p4,p5⟩:=cells6 hr1
 clear hw1 hb1 hr1 hg
 have hk:=HKK.out
 rw [hk] at p0
 clear hk
 go_wp2_with fail
 refine bodyPost_ret (v:=.string (st h.nm)) (by simp [results,Tryd.results43,go_sem]) rfl ?_
 exact⟨by rw [HV.out],HB1.out⟩
set_option maxRecDepth 100000 in
set_option maxHeartbeats 8000000 in
theorem Expr_read (h:Hd) (ar:Fo) (hkk:h.k=12):EOK h ar:=by
 intro w sl ha
 have HA0:=Lib.hid ha
 obtain⟨a,c,rws,rfl,hlc,hcm,-,-,-⟩:=ha
 have hb1:=below_alloc w (.cells #[.int .i64 h.k,.int .i64 h.op,.int .i64 h.v,.int .i64 h.ln,.string (st h.nm),.slice a ar.len c] 40)
 have hr1:=heap_alloc_new w (.cells #[.int .i64 h.k,.int .i64 h.op,.int .i64 h.v,.int .i64 h.ln,.string (st h.nm),.slice a ar.len c] 40)
 have HA1:=Lib.hid (HA0.out.belowT hb1)
 have HV:Hid (fmtE h ar=[114,101,97,100]):=Lib.hid (by show fmt1 h (fmts ar)=_;unfold fmt1;simp [hkk])
 have HKK:=Lib.hid hkk
 clear hkk
 go_enter Tryd.func43,Tryd.ntmps43
 go_upto_region 1 with fail
 obtain⟨w1,hw1⟩ : ∃ W,w.alloc (.cells #[.int .i64 h.k,.int .i64 h.op,.int .i64 h.v,.int .i64 h.ln,.string (st h.nm),.slice a ar.len c] 40)=W:=⟨_,rfl⟩
 obtain⟨g,hg⟩ : ∃ x,w.heap.size=x:=⟨_,rfl⟩
 rw [hw1] at hb1 hr1 HA1 ⊢
 rw [hg] at hr1
 (try rw [hg])
 have HB1:=Lib.hid hb1
 obtain⟨p0,p1,p2,p3,p4,p5⟩:=cells6 hr1
 clear hw1 hb1 hr1 hg
 have hk:=HKK.out
 rw [hk] at p0
 clear hk
 go_wp2_with fail
 refine bodyPost_ret (v:=.string (st [114,101,97,100])) (by simp [results,Tryd.results43,go_sem]) rfl ?_
 exact⟨by rw [HV.out],HB1.out⟩
set_option maxRecDepth 100000 in
set_option maxHeartbeats 8000000 in
theorem Expr_func (h:Hd) (ar:Fo) (hkk:h.k=11) (hn:h.nm.length<=4):EOK h ar:=by
 intro w sl ha
 have HA0:=Lib.hid ha
 obtain⟨a,c,rws,rfl,hlc,hcm,-,-,-⟩:=ha
 have hb1:=below_alloc w (.cells #[.int .i64 h.k,.int .i64 h.op,.int .i64 h.v,.int .i64 h.ln,.string (st h.nm),.slice a ar.len c] 40)
 have hr1:=heap_alloc_new w (.cells #[.int .i64 h.k,.int .i64 h.op,.int .i64 h.v,.int .i64 h.ln,.string (st h.nm),.slice a ar.len c] 40)
 have HA1:=Lib.hid (HA0.out.belowT hb1)
 have HV:Hid (fmtE h ar=38::h.nm):=Lib.hid (by show fmt1 h (fmts ar)=_;unfold fmt1;simp [hkk])
 have HKK:=Lib.hid hkk
 clear hkk
 go_enter Tryd.func43,Tryd.ntmps43
 go_upto_region 1 with fail
 obtain⟨w1,hw1⟩ : ∃ W,w.alloc (.cells #[.int .i64 h.k,.int .i64 h.op,.int .i64 h.v,.int .i64 h.ln,.string (st h.nm),.slice a ar.len c] 40)=W:=⟨_,rfl⟩
 obtain⟨g,hg⟩ : ∃ x,w.heap.size=x:=⟨_,rfl⟩
 rw [hw1] at hb1 hr1 HA1 ⊢
 rw [hg] at hr1
 (try rw [hg])
 have HB1:=Lib.hid hb1
 obtain⟨p0,p1,p2,p3,p4,p5⟩:=cells6 hr1
 clear hw1 hb1 hr1 hg
 have hk:=HKK.out
 rw [hk] at p0
 clear hk
 have hst:=st_app [38] h.nm
 go_wp2_with fail
 refine bodyPost_ret (v:=.string (st (38::h.nm))) (by simp [results,Tryd.results43,go_sem]) rfl ?_
 exact⟨by rw [HV.out],HB1.out⟩
set_option maxRecDepth 100000 in
set_option maxHeartbeats 8000000 in
theorem Expr_number (h:Hd) (ar:Fo) (hkk:h.k=1) (h0:0<=h.v) (h1:h.v<=9223372036854775807):EOK h ar:=by
 intro w sl ha
 have HA0:=Lib.hid ha
 obtain⟨a,c,rws,rfl,hlc,hcm,-,-,-⟩:=ha
 have hb1:=below_alloc w (.cells #[.int .i64 h.k,.int .i64 h.op,.int .i64 h.v,.int .i64 h.ln,.string (st h.nm),.slice a ar.len c] 40)
 have hr1:=heap_alloc_new w (.cells #[.int .i64 h.k,.int .i64 h.op,.int .i64 h.v,.int .i64 h.ln,.string (st h.nm),.slice a ar.len c] 40)
 have HA1:=Lib.hid (HA0.out.belowT hb1)
 have HV:Hid (fmtE h ar=Lib.decDigits h.v.toNat):=Lib.hid (by show fmt1 h (fmts ar)=_;unfold fmt1;simp [hkk])
 have HKK:=Lib.hid hkk
 clear hkk
 go_enter Tryd.func43,Tryd.ntmps43
 go_upto_region 1 with fail
 obtain⟨w1,hw1⟩ : ∃ W,w.alloc (.cells #[.int .i64 h.k,.int .i64 h.op,.int .i64 h.v,.int .i64 h.ln,.string (st h.nm),.slice a ar.len c] 40)=W:=⟨_,rfl⟩
 obtain⟨g,hg⟩ : ∃ x,w.heap.size=x:=⟨_,rfl⟩
 rw [hw1] at hb1 hr1 HA1 ⊢
 rw [hg] at hr1
 (try rw [hg])
 have HB1:=Lib.hid hb1
 obtain⟨p0,p1,p2,p3,p4,p5⟩:=cells6 hr1
 clear hw1 hb1 hr1 hg
 have hk:=HKK.out
 rw [hk] at p0
 clear hk
 obtain⟨z,hz⟩ : ∃ z:Nat,h.v=z:=Int.eq_ofNat_of_zero_le h0
 rw [hz] at p2 HV h1
 have z1:z<=9223372036854775807:=by omega
 have z0:(0:Int)<=(z:Int):=by omega
 have zm:max (z:Int) 0=(z:Int):=by omega
 go_wp2_with fail
 refine(Number_any z z1 _).mono ?_
 rintro e w2 ⟨rfl,hb2⟩
 go_wp2_with fail
 refine bodyPost_ret (v:=.string (st (Lib.decDigits z))) (by simp [results,Tryd.results43,go_sem]) rfl ?_
 exact⟨by rw [HV.out];rfl,HB1.out.trans (hb2.mono HB1.out.size)⟩
set_option maxRecDepth 100000 in
set_option maxHeartbeats 8000000 in
theorem Expr_element (h:Hd) (ar:Fo) (hkk:h.k=4) (hn:h.nm.length<=4) (x:Hd×Fo) (hx:ar.get 0=some x) (hlen:ar.len=1) (hE:EOK x.1 x.2) (hl:(fmtE x.1 x.2).length<=1000000):EOK h ar:=by
 intro w sl ha
 have HA0:=Lib.hid ha
 obtain⟨a,c,rws,rfl,hlc,hcm,-,-,-⟩:=ha
 have hb1:=below_alloc w (.cells #[.int .i64 h.k,.int .i64 h.op,.int .i64 h.v,.int .i64 h.ln,.string (st h.nm),.slice a ar.len c] 40)
 have hr1:=heap_alloc_new w (.cells #[.int .i64 h.k,.int .i64 h.op,.int .i64 h.v,.int .i64 h.ln,.string (st h.nm),.slice a ar.len c] 40)
 have HA1:=Lib.hid (HA0.out.belowT hb1)
 have HV:Hid (fmtE h ar=h.nm++([91]++(fmtE x.1 x.2++[93]))):=Lib.hid (by
  have h1:=fmts_get ar 0 x hx
  have h2:=fmts_len ar
  show fmt1 h (fmts ar)=_
  match hf:fmts ar,h1,h2 with
  | [q],h1,_=>simp at h1;subst h1;unfold fmt1;simp [hkk]
  | [],h1,_=>simp at h1
  | _::_::_,_,h2=>simp [hlen] at h2)
 have HLN:=Lib.hid hlen
 clear hlen
 have HKK:=Lib.hid hkk
 clear hkk
 go_enter Tryd.func43,Tryd.ntmps43
 go_upto_region 1 with fail
 obtain⟨w1,hw1⟩ : ∃ W,w.alloc (.cells #[.int .i64 h.k,.int .i64 h.op,.int .i64 h.v,.int .i64 h.ln,.string (st h.nm),.slice a ar.len c] 40)=W:=⟨_,rfl⟩
 obtain⟨g,hg⟩ : ∃ x,w.heap.size=x:=⟨_,rfl⟩
 rw [hw1] at hb1 hr1 HA1 ⊢
 rw [hg] at hr1
 (try rw [hg])
 have HB1:=Lib.hid hb1
 obtain⟨p0,p1,p2,p3,p4,p5⟩:=cells6 hr1
 clear hw1 hb1 hr1 hg
 have hk:=HKK.out
 rw [hk] at p0
 clear hk
 obtain⟨b,off,asl,csl,rfl,hbl,HX,k0,k1,k2,k3,k4,k5⟩:=HA1.out.elem hx
 rw [Nat.zero_mul,Nat.add_zero] at k0 k1 k2 k3 k4 k5
 rw [HLN.out] at p5 hlc
 (try rw [HLN.out])
 have HEE:=Lib.hid hE
 clear hE hx
 go_upto_region 15 with fail
 refine wp_region_below (by kernel_rfl) (by kernel_rfl) ?_
 have g0 : ∀ x:Since w1,x.val.cell? ⟨g,4,none⟩=some (.string (st h.nm)):=fun x=>x.cell p4
 have g1 : ∀ x:Since w1,x.val.cell? ⟨g,5,none⟩=some (.slice (some ⟨b,off,none⟩) 1 c):=fun x=>x.cell p5
 have m0 : ∀ y:Since w1,y.val.cell? ⟨b,off,none⟩=some (.int .i64 x.1.k):=fun y=>y.cell k0
 have m1 : ∀ y:Since w1,y.val.cell? ⟨b,off+1,none⟩=some (.int .i64 x.1.op):=fun y=>y.cell k1
 have m2 : ∀ y:Since w1,y.val.cell? ⟨b,off+2,none⟩=some (.int .i64 x.1.v):=fun y=>y.cell k2
 have m3 : ∀ y:Since w1,y.val.cell? ⟨b,off+3,none⟩=some (.int .i64 x.1.ln):=fun y=>y.cell k3
 have m4 : ∀ y:Since w1,y.val.cell? ⟨b,off+4,none⟩=some (.string (st x.1.nm)):=fun y=>y.cell k4
 have m5 : ∀ y:Since w1,y.val.cell? ⟨b,off+5,none⟩=some (.slice asl x.2.len csl):=fun y=>y.cell k5
 have hst:=st_app
 repeat (go_big_quiet_step ((first | (go_at_call 43;exact calls_since _ (HEE.out _ _ (HX.out.belowT (Since.property _)))))))
 refine wpQuiet_nil ?_
 intro w2 hb2
 clear g0 g1 m0 m1 m2 m3 m4 m5
 go_wp2_with fail
 refine bodyPost_ret (v:=.string (st (h.nm++91::(fmtE x.1 x.2++[93])))) (by simp [results,Tryd.results43,go_sem]) rfl ?_
 exact⟨by rw [HV.out];rfl,HB1.out.trans (hb2.mono HB1.out.size)⟩
set_option maxRecDepth 100000 in
set_option maxHeartbeats 8000000 in
theorem Expr_unary (h:Hd) (ar:Fo) (hkk:h.k=5) (ho0:0<=h.op) (ho1:h.op<=11) (x:Hd×Fo) (hx:ar.get 0=some x) (hlen:ar.len=1) (hE:EOK x.1 x.2) (hl:(fmtE x.1 x.2).length<=1000000):EOK h ar:=by
 intro w sl ha
 have HA0:=Lib.hid ha
 obtain⟨a,c,rws,rfl,hlc,hcm,-,-,-⟩:=ha
 have hb1:=below_alloc w (.cells #[.int .i64 h.k,.int .i64 h.op,.int .i64 h.v,.int .i64 h.ln,.string (st h.nm),.slice a ar.len c] 40)
 have hr1:=heap_alloc_new w (.cells #[.int .i64 h.k,.int .i64 h.op,.int .i64 h.v,.int .i64 h.ln,.string (st h.nm),.slice a ar.len c] 40)
 have HA1:=Lib.hid (HA0.out.belowT hb1)
 have HOP:=Lib.hid (And.intro ho0 ho1)
 clear ho0 ho1
 have HV:Hid (fmtE h ar=sgn h.op++opd x.1 (fmtE x.1 x.2)):=Lib.hid (by
  have h1:=fmts_get ar 0 x hx
  have h2:=fmts_len ar
  show fmt1 h (fmts ar)=_
  match hf:fmts ar,h1,h2 with
  | [q],h1,_=>simp at h1;subst h1;unfold fmt1;simp [hkk]
  | [],h1,_=>simp at h1
  | _::_::_,_,h2=>simp [hlen] at h2)
 have HLN:=Lib.hid hlen
 clear hlen
 have HKK:=Lib.hid hkk
 clear hkk
 go_enter Tryd.func43,Tryd.ntmps43
 go_upto_region 1 with fail
 obtain⟨w1,hw1⟩ : ∃ W,w.alloc (.cells #[.int .i64 h.k,.int .i64 h.op,.int .i64 h.v,.int .i64 h.ln,.string (st h.nm),.slice a ar.len c] 40)=W:=⟨_,rfl⟩
 obtain⟨g,hg⟩ : ∃ x,w.heap.size=x:=⟨_,rfl⟩
 rw [hw1] at hb1 hr1 HA1 ⊢
 rw [hg] at hr1
 (try rw [hg])
 have HB1:=Lib.hid hb1
 obtain⟨p0,p1,p2,p3,p4,p5⟩:=cells6 hr1
 clear hw1 hb1 hr1 hg
 have hk:=HKK.out
 rw [hk] at p0
 clear hk
 obtain⟨b,off,asl,csl,rfl,hbl,HX,k0,k1,k2,k3,k4,k5⟩:=HA1.out.elem hx
 rw [Nat.zero_mul,Nat.add_zero] at k0 k1 k2 k3 k4 k5
 rw [HLN.out] at p5 hlc
 (try rw [HLN.out])
 have HEE:=Lib.hid hE
 have hol:=opd_len x.1 (fmtE x.1 x.2)
 have HOL:=Lib.hid hl
 clear hE
 have hsl:=sgn_len h.op
 clear hx
 go_upto_region 18 with fail
 refine wp_region_below (by kernel_rfl) (by kernel_rfl) ?_
 have g0 : ∀ x:Since w1,x.val.cell? ⟨g,1,none⟩=some (.int .i64 h.op):=fun x=>x.cell p1
 have g1 : ∀ x:Since w1,x.val.cell? ⟨g,5,none⟩=some (.slice (some ⟨b,off,none⟩) 1 c):=fun x=>x.cell p5
 have m0 : ∀ s:Since w1,s.val.cell? ⟨b,off,none⟩=some (.int .i64 x.1.k):=fun s=>s.cell k0
 have m1 : ∀ s:Since w1,s.val.cell? ⟨b,off+1,none⟩=some (.int .i64 x.1.op):=fun s=>s.cell k1
 have m2 : ∀ s:Since w1,s.val.cell? ⟨b,off+2,none⟩=some (.int .i64 x.1.v):=fun s=>s.cell k2
 have m3 : ∀ s:Since w1,s.val.cell? ⟨b,off+3,none⟩=some (.int .i64 x.1.ln):=fun s=>s.cell k3
 have m4 : ∀ s:Since w1,s.val.cell? ⟨b,off+4,none⟩=some (.string (st x.1.nm)):=fun s=>s.cell k4
 have m5 : ∀ s:Since w1,s.val.cell? ⟨b,off+5,none⟩=some (.slice asl x.2.len csl):=fun s=>s.cell k5
 have hst:=st_app
 repeat (go_big_quiet_step ((first | (go_at_call 57;exact calls_since _ (operand_of x.1 x.2 HEE.out HOL.out _ _ (HX.out.belowT (Since.property _)))) | (go_at_call 56;exact calls_since _ (sign_any h.op HOP.out.1 HOP.out.2 _)))))
 refine wpQuiet_nil ?_
 intro w2 hb2
 clear g0 g1 m0 m1 m2 m3 m4 m5
 go_wp2_with fail
 refine bodyPost_ret (v:=.string (st (sgn h.op++opd x.1 (fmtE x.1 x.2)))) (by simp [results,Tryd.results43,go_sem]) rfl ?_
 exact⟨(by rw [HV.out];try simp [List.append_assoc]),HB1.out.trans (hb2.mono HB1.out.size)⟩
set_option maxRecDepth 100000 in
set_option maxHeartbeats 8000000 in
theorem Expr_binary (h:Hd) (ar:Fo) (hkk:h.k=6) (ho0:0<=h.op) (ho1:h.op<=11) (x y:Hd×Fo) (hx:ar.get 0=some x) (hy:ar.get 1=some y) (hlen:ar.len=2) (hE:EOK x.1 x.2) (hl:(fmtE x.1 x.2).length<=1000000) (hE2:EOK y.1 y.2) (hl2:(fmtE y.1 y.2).length<=1000000):EOK h ar:=by
 intro w sl ha
 have HA0:=Lib.hid ha
 obtain⟨a,c,rws,rfl,hlc,hcm,-,-,-⟩:=ha
 have hb1:=below_alloc w (.cells #[.int .i64 h.k,.int .i64 h.op,.int .i64 h.v,.int .i64 h.ln,.string (st h.nm),.slice a ar.len c] 40)
 have hr1:=heap_alloc_new w (.cells #[.int .i64 h.k,.int .i64 h.op,.int .i64 h.v,.int .i64 h.ln,.string (st h.nm),.slice a ar.len c] 40)
 have HA1:=Lib.hid (HA0.out.belowT hb1)
 have HOP:=Lib.hid (And.intro ho0 ho1)
 clear ho0 ho1
 have HV:Hid (fmtE h ar=opd x.1 (fmtE x.1 x.2)++([32]++(sgn h.op++([32]++opd y.1 (fmtE y.1 y.2))))):=Lib.hid (by
  have h1:=fmts_get ar 0 x hx
  have h2:=fmts_get ar 1 y hy
  have h3:=fmts_len ar
  show fmt1 h (fmts ar)=_
  match hf:fmts ar,h1,h2,h3 with
  | [q,q2],h1,h2,_=>simp at h1 h2;subst h1 h2;unfold fmt1;simp [hkk]
  | [],h1,_,_=>simp at h1
  | [_],_,h2,_=>simp at h2
  | _::_::_::_,_,_,h3=>simp [hlen] at h3)
 have HLN:=Lib.hid hlen
 clear hlen
 have HKK:=Lib.hid hkk
 clear hkk
 go_enter Tryd.func43,Tryd.ntmps43
 go_upto_region 1 with fail
 obtain⟨w1,hw1⟩ : ∃ W,w.alloc (.cells #[.int .i64 h.k,.int .i64 h.op,.int .i64 h.v,.int .i64 h.ln,.string (st h.nm),.slice a ar.len c] 40)=W:=⟨_,rfl⟩
 obtain⟨g,hg⟩ : ∃ x,w.heap.size=x:=⟨_,rfl⟩
 rw [hw1] at hb1 hr1 HA1 ⊢
 rw [hg] at hr1
 (try rw [hg])
 have HB1:=Lib.hid hb1
 obtain⟨p0,p1,p2,p3,p4,p5⟩:=cells6 hr1
 clear hw1 hb1 hr1 hg
 have hk:=HKK.out
 rw [hk] at p0
 clear hk
 obtain⟨b,off,asl,csl,rfl,hbl,HX,k0,k1,k2,k3,k4,k5⟩:=HA1.out.elem hx
 obtain⟨b',off',asl2,csl2,e',hbl2,HY,j0,j1,j2,j3,j4,j5⟩:=HA1.out.elem hy
 injection e' with e'
 injection e' with e1 e2
 subst e1 e2
 rw [Nat.zero_mul,Nat.add_zero] at k0 k1 k2 k3 k4 k5
 rw [Nat.one_mul] at j0 j1 j2 j3 j4 j5
 rw [HLN.out] at p5 hlc
 (try rw [HLN.out])
 have HEE:=Lib.hid hE
 have hol:=opd_len x.1 (fmtE x.1 x.2)
 have HOL:=Lib.hid hl
 clear hE
 have HEF:=Lib.hid hE2
 have hol2:=opd_len y.1 (fmtE y.1 y.2)
 have HOL2:=Lib.hid hl2
 clear hE2 hy
 have hsl:=sgn_len h.op
 clear hx
 go_upto_region 21 with fail
 refine wp_region_below (by kernel_rfl) (by kernel_rfl) ?_
 have g0 : ∀ x:Since w1,x.val.cell? ⟨g,1,none⟩=some (.int .i64 h.op):=fun x=>x.cell p1
 have g1 : ∀ x:Since w1,x.val.cell? ⟨g,5,none⟩=some (.slice (some ⟨b,off,none⟩) 2 c):=fun x=>x.cell p5
 have m0 : ∀ s:Since w1,s.val.cell? ⟨b,off,none⟩=some (.int .i64 x.1.k):=fun s=>s.cell k0
 have m1 : ∀ s:Since w1,s.val.cell? ⟨b,off+1,none⟩=some (.int .i64 x.1.op):=fun s=>s.cell k1
 have m2 : ∀ s:Since w1,s.val.cell? ⟨b,off+2,none⟩=some (.int .i64 x.1.v):=fun s=>s.cell k2
 have m3 : ∀ s:Since w1,s.val.cell? ⟨b,off+3,none⟩=some (.int .i64 x.1.ln):=fun s=>s.cell k3
 have m4 : ∀ s:Since w1,s.val.cell? ⟨b,off+4,none⟩=some (.string (st x.1.nm)):=fun s=>s.cell k4
 have m5 : ∀ s:Since w1,s.val.cell? ⟨b,off+5,none⟩=some (.slice asl x.2.len csl):=fun s=>s.cell k5
 have n0 : ∀ s:Since w1,s.val.cell? ⟨b,off+6,none⟩=some (.int .i64 y.1.k):=fun s=>s.cell j0
 have n1 : ∀ s:Since w1,s.val.cell? ⟨b,off+6+1,none⟩=some (.int .i64 y.1.op):=fun s=>s.cell j1
 have n2 : ∀ s:Since w1,s.val.cell? ⟨b,off+6+2,none⟩=some (.int .i64 y.1.v):=fun s=>s.cell j2
 have n3 : ∀ s:Since w1,s.val.cell? ⟨b,off+6+3,none⟩=some (.int .i64 y.1.ln):=fun s=>s.cell j3
 have n4 : ∀ s:Since w1,s.val.cell? ⟨b,off+6+4,none⟩=some (.string (st y.1.nm)):=fun s=>s.cell j4
 have n5 : ∀ s:Since w1,s.val.cell? ⟨b,off+6+5,none⟩=some (.slice asl2 y.2.len csl2):=fun s=>s.cell j5
 have hst:=st_app
 go_big_quiet_step ((go_at_call 57;exact calls_since _ (operand_of x.1 x.2 HEE.out HOL.out _ _ (HX.out.belowT (Since.property _)))))
 go_big_quiet_step ((go_at_call 57;exact calls_since _ (operand_of x.1 x.2 HEE.out HOL.out _ _ (HX.out.belowT (Since.property _)))))
 go_big_quiet_step ((go_at_call 57;exact calls_since _ (operand_of x.1 x.2 HEE.out HOL.out _ _ (HX.out.belowT (Since.property _)))))
 go_big_quiet_step ((go_at_call 57;exact calls_since _ (operand_of x.1 x.2 HEE.out HOL.out _ _ (HX.out.belowT (Since.property _)))))
 go_big_quiet_step ((go_at_call 57;exact calls_since _ (operand_of x.1 x.2 HEE.out HOL.out _ _ (HX.out.belowT (Since.property _)))))
 repeat (go_big_quiet_step ((first | (go_at_call 57;exact calls_since _ (operand_of y.1 y.2 HEF.out HOL2.out _ _ (HY.out.belowT (Since.property _)))) | (go_at_call 56;exact calls_since _ (sign_any h.op HOP.out.1 HOP.out.2 _)))))
 refine wpQuiet_nil ?_
 intro w2 hb2
 clear g0 g1 m0 m1 m2 m3 m4 m5 n0 n1 n2 n3 n4 n5
 go_wp2_with fail
 refine bodyPost_ret (v:=.string (st (opd x.1 (fmtE x.1 x.2)++32::(sgn h.op++32::opd y.1 (fmtE y.1 y.2))))) (by simp [results,Tryd.results43,go_sem]) rfl ?_
 exact⟨(by rw [HV.out];try simp [List.append_assoc]),HB1.out.trans (hb2.mono HB1.out.size)⟩
set_option maxRecDepth 100000 in
set_option maxHeartbeats 8000000 in
theorem Expr_and (h:Hd) (ar:Fo) (hkk:h.k=7) (x y:Hd×Fo) (hx:ar.get 0=some x) (hy:ar.get 1=some y) (hlen:ar.len=2) (hE:EOK x.1 x.2) (hl:(fmtE x.1 x.2).length<=1000000) (hE2:EOK y.1 y.2) (hl2:(fmtE y.1 y.2).length<=1000000):EOK h ar:=by
 intro w sl ha
 have HA0:=Lib.hid ha
 obtain⟨a,c,rws,rfl,hlc,hcm,-,-,-⟩:=ha
 have hb1:=below_alloc w (.cells #[.int .i64 h.k,.int .i64 h.op,.int .i64 h.v,.int .i64 h.ln,.string (st h.nm),.slice a ar.len c] 40)
 have hr1:=heap_alloc_new w (.cells #[.int .i64 h.k,.int .i64 h.op,.int .i64 h.v,.int .i64 h.ln,.string (st h.nm),.slice a ar.len c] 40)
 have HA1:=Lib.hid (HA0.out.belowT hb1)
 have HV:Hid (fmtE h ar=opd x.1 (fmtE x.1 x.2)++([32,38,38,32]++opd y.1 (fmtE y.1 y.2))):=Lib.hid (by
  have h1:=fmts_get ar 0 x hx
  have h2:=fmts_get ar 1 y hy
  have h3:=fmts_len ar
  show fmt1 h (fmts ar)=_
  match hf:fmts ar,h1,h2,h3 with
  | [q,q2],h1,h2,_=>simp at h1 h2;subst h1 h2;unfold fmt1;simp [hkk]
  | [],h1,_,_=>simp at h1
  | [_],_,h2,_=>simp at h2
  | _::_::_::_,_,_,h3=>simp [hlen] at h3)
 have HLN:=Lib.hid hlen
 clear hlen
 have HKK:=Lib.hid hkk
 clear hkk
 go_enter Tryd.func43,Tryd.ntmps43
 go_upto_region 1 with fail
 obtain⟨w1,hw1⟩ : ∃ W,w.alloc (.cells #[.int .i64 h.k,.int .i64 h.op,.int .i64 h.v,.int .i64 h.ln,.string (st h.nm),.slice a ar.len c] 40)=W:=⟨_,rfl⟩
 obtain⟨g,hg⟩ : ∃ x,w.heap.size=x:=⟨_,rfl⟩
 rw [hw1] at hb1 hr1 HA1 ⊢
 rw [hg] at hr1
 (try rw [hg])
 have HB1:=Lib.hid hb1
 obtain⟨p0,p1,p2,p3,p4,p5⟩:=cells6 hr1
 clear hw1 hb1 hr1 hg
 have hk:=HKK.out
 rw [hk] at p0
 clear hk
 obtain⟨b,off,asl,csl,rfl,hbl,HX,k0,k1,k2,k3,k4,k5⟩:=HA1.out.elem hx
 obtain⟨b',off',asl2,csl2,e',hbl2,HY,j0,j1,j2,j3,j4,j5⟩:=HA1.out.elem hy
 injection e' with e'
 injection e' with e1 e2
 subst e1 e2
 rw [Nat.zero_mul,Nat.add_zero] at k0 k1 k2 k3 k4 k5
 rw [Nat.one_mul] at j0 j1 j2 j3 j4 j5
 rw [HLN.out] at p5 hlc
 (try rw [HLN.out])
 have HEE:=Lib.hid hE
 have hol:=opd_len x.1 (fmtE x.1 x.2)
 have HOL:=Lib.hid hl
 clear hE
 have HEF:=Lib.hid hE2
 have hol2:=opd_len y.1 (fmtE y.1 y.2)
 have HOL2:=Lib.hid hl2
 clear hE2 hy
 clear hx
 go_upto_region 24 with fail
 refine wp_region_below (by kernel_rfl) (by kernel_rfl) ?_
 have g1 : ∀ x:Since w1,x.val.cell? ⟨g,5,none⟩=some (.slice (some ⟨b,off,none⟩) 2 c):=fun x=>x.cell p5
 have m0 : ∀ s:Since w1,s.val.cell? ⟨b,off,none⟩=some (.int .i64 x.1.k):=fun s=>s.cell k0
 have m1 : ∀ s:Since w1,s.val.cell? ⟨b,off+1,none⟩=some (.int .i64 x.1.op):=fun s=>s.cell k1
 have m2 : ∀ s:Since w1,s.val.cell? ⟨b,off+2,none⟩=some (.int .i64 x.1.v):=fun s=>s.cell k2
 have m3 : ∀ s:Since w1,s.val.cell? ⟨b,off+3,none⟩=some (.int .i64 x.1.ln):=fun s=>s.cell k3
 have m4 : ∀ s:Since w1,s.val.cell? ⟨b,off+4,none⟩=some (.string (st x.1.nm)):=fun s=>s.cell k4
 have m5 : ∀ s:Since w1,s.val.cell? ⟨b,off+5,none⟩=some (.slice asl x.2.len csl):=fun s=>s.cell k5
 have n0 : ∀ s:Since w1,s.val.cell? ⟨b,off+6,none⟩=some (.int .i64 y.1.k):=fun s=>s.cell j0
 have n1 : ∀ s:Since w1,s.val.cell? ⟨b,off+6+1,none⟩=some (.int .i64 y.1.op):=fun s=>s.cell j1
 have n2 : ∀ s:Since w1,s.val.cell? ⟨b,off+6+2,none⟩=some (.int .i64 y.1.v):=fun s=>s.cell j2
 have n3 : ∀ s:Since w1,s.val.cell? ⟨b,off+6+3,none⟩=some (.int .i64 y.1.ln):=fun s=>s.cell j3
 have n4 : ∀ s:Since w1,s.val.cell? ⟨b,off+6+4,none⟩=some (.string (st y.1.nm)):=fun s=>s.cell j4
 have n5 : ∀ s:Since w1,s.val.cell? ⟨b,off+6+5,none⟩=some (.slice asl2 y.2.len csl2):=fun s=>s.cell j5
 have hst:=st_app
 go_big_quiet_step ((go_at_call 57;exact calls_since _ (operand_of x.1 x.2 HEE.out HOL.out _ _ (HX.out.belowT (Since.property _)))))
 go_big_quiet_step ((go_at_call 57;exact calls_since _ (operand_of x.1 x.2 HEE.out HOL.out _ _ (HX.out.belowT (Since.property _)))))
 go_big_quiet_step ((go_at_call 57;exact calls_since _ (operand_of x.1 x.2 HEE.out HOL.out _ _ (HX.out.belowT (Since.property _)))))
 go_big_quiet_step ((go_at_call 57;exact calls_since _ (operand_of x.1 x.2 HEE.out HOL.out _ _ (HX.out.belowT (Since.property _)))))
 go_big_quiet_step ((go_at_call 57;exact calls_since _ (operand_of x.1 x.2 HEE.out HOL.out _ _ (HX.out.belowT (Since.property _)))))
 repeat (go_big_quiet_step ((first | (go_at_call 57;exact calls_since _ (operand_of y.1 y.2 HEF.out HOL2.out _ _ (HY.out.belowT (Since.property _)))))))
 refine wpQuiet_nil ?_
 intro w2 hb2
 clear g1 m0 m1 m2 m3 m4 m5 n0 n1 n2 n3 n4 n5
 go_wp2_with fail
 refine bodyPost_ret (v:=.string (st (opd x.1 (fmtE x.1 x.2)++32::38::38::32::opd y.1 (fmtE y.1 y.2)))) (by simp [results,Tryd.results43,go_sem]) rfl ?_
 exact⟨(by rw [HV.out];try simp [List.append_assoc]),HB1.out.trans (hb2.mono HB1.out.size)⟩
set_option maxRecDepth 100000 in
set_option maxHeartbeats 8000000 in
theorem Expr_or (h:Hd) (ar:Fo) (hkk:h.k=8) (x y:Hd×Fo) (hx:ar.get 0=some x) (hy:ar.get 1=some y) (hlen:ar.len=2) (hE:EOK x.1 x.2) (hl:(fmtE x.1 x.2).length<=1000000) (hE2:EOK y.1 y.2) (hl2:(fmtE y.1 y.2).length<=1000000):EOK h ar:=by
 intro w sl ha
 have HA0:=Lib.hid ha
 obtain⟨a,c,rws,rfl,hlc,hcm,-,-,-⟩:=ha
 have hb1:=below_alloc w (.cells #[.int .i64 h.k,.int .i64 h.op,.int .i64 h.v,.int .i64 h.ln,.string (st h.nm),.slice a ar.len c] 40)
 have hr1:=heap_alloc_new w (.cells #[.int .i64 h.k,.int .i64 h.op,.int .i64 h.v,.int .i64 h.ln,.string (st h.nm),.slice a ar.len c] 40)
 have HA1:=Lib.hid (HA0.out.belowT hb1)
 have HV:Hid (fmtE h ar=opd x.1 (fmtE x.1 x.2)++([32,124,124,32]++opd y.1 (fmtE y.1 y.2))):=Lib.hid (by
  have h1:=fmts_get ar 0 x hx
  have h2:=fmts_get ar 1 y hy
  have h3:=fmts_len ar
  show fmt1 h (fmts ar)=_
  match hf:fmts ar,h1,h2,h3 with
  | [q,q2],h1,h2,_=>simp at h1 h2;subst h1 h2;unfold fmt1;simp [hkk]
  | [],h1,_,_=>simp at h1
  | [_],_,h2,_=>simp at h2
  | _::_::_::_,_,_,h3=>simp [hlen] at h3)
 have HLN:=Lib.hid hlen
 clear hlen
 have HKK:=Lib.hid hkk
 clear hkk
 go_enter Tryd.func43,Tryd.ntmps43
 go_upto_region 1 with fail
 obtain⟨w1,hw1⟩ : ∃ W,w.alloc (.cells #[.int .i64 h.k,.int .i64 h.op,.int .i64 h.v,.int .i64 h.ln,.string (st h.nm),.slice a ar.len c] 40)=W:=⟨_,rfl⟩
 obtain⟨g,hg⟩ : ∃ x,w.heap.size=x:=⟨_,rfl⟩
 rw [hw1] at hb1 hr1 HA1 ⊢
 rw [hg] at hr1
 (try rw [hg])
 have HB1:=Lib.hid hb1
 obtain⟨p0,p1,p2,p3,p4,p5⟩:=cells6 hr1
 clear hw1 hb1 hr1 hg
 have hk:=HKK.out
 rw [hk] at p0
 clear hk
 obtain⟨b,off,asl,csl,rfl,hbl,HX,k0,k1,k2,k3,k4,k5⟩:=HA1.out.elem hx
 obtain⟨b',off',asl2,csl2,e',hbl2,HY,j0,j1,j2,j3,j4,j5⟩:=HA1.out.elem hy
 injection e' with e'
 injection e' with e1 e2
 subst e1 e2
 rw [Nat.zero_mul,Nat.add_zero] at k0 k1 k2 k3 k4 k5
 rw [Nat.one_mul] at j0 j1 j2 j3 j4 j5
 rw [HLN.out] at p5 hlc
 (try rw [HLN.out])
 have HEE:=Lib.hid hE
 have hol:=opd_len x.1 (fmtE x.1 x.2)
 have HOL:=Lib.hid hl
 clear hE
 have HEF:=Lib.hid hE2
 have hol2:=opd_len y.1 (fmtE y.1 y.2)
 have HOL2:=Lib.hid hl2
 clear hE2 hy
 clear hx
 go_upto_region 27 with fail
 refine wp_region_below (by kernel_rfl) (by kernel_rfl) ?_
 have g1 : ∀ x:Since w1,x.val.cell? ⟨g,5,none⟩=some (.slice (some ⟨b,off,none⟩) 2 c):=fun x=>x.cell p5
 have m0 : ∀ s:Since w1,s.val.cell? ⟨b,off,none⟩=some (.int .i64 x.1.k):=fun s=>s.cell k0
 have m1 : ∀ s:Since w1,s.val.cell? ⟨b,off+1,none⟩=some (.int .i64 x.1.op):=fun s=>s.cell k1
 have m2 : ∀ s:Since w1,s.val.cell? ⟨b,off+2,none⟩=some (.int .i64 x.1.v):=fun s=>s.cell k2
 have m3 : ∀ s:Since w1,s.val.cell? ⟨b,off+3,none⟩=some (.int .i64 x.1.ln):=fun s=>s.cell k3
 have m4 : ∀ s:Since w1,s.val.cell? ⟨b,off+4,none⟩=some (.string (st x.1.nm)):=fun s=>s.cell k4
 have m5 : ∀ s:Since w1,s.val.cell? ⟨b,off+5,none⟩=some (.slice asl x.2.len csl):=fun s=>s.cell k5
 have n0 : ∀ s:Since w1,s.val.cell? ⟨b,off+6,none⟩=some (.int .i64 y.1.k):=fun s=>s.cell j0
 have n1 : ∀ s:Since w1,s.val.cell? ⟨b,off+6+1,none⟩=some (.int .i64 y.1.op):=fun s=>s.cell j1
 have n2 : ∀ s:Since w1,s.val.cell? ⟨b,off+6+2,none⟩=some (.int .i64 y.1.v):=fun s=>s.cell j2
 have n3 : ∀ s:Since w1,s.val.cell? ⟨b,off+6+3,none⟩=some (.int .i64 y.1.ln):=fun s=>s.cell j3
 have n4 : ∀ s:Since w1,s.val.cell? ⟨b,off+6+4,none⟩=some (.string (st y.1.nm)):=fun s=>s.cell j4
 have n5 : ∀ s:Since w1,s.val.cell? ⟨b,off+6+5,none⟩=some (.slice asl2 y.2.len csl2):=fun s=>s.cell j5
 have hst:=st_app
 go_big_quiet_step ((go_at_call 57;exact calls_since _ (operand_of x.1 x.2 HEE.out HOL.out _ _ (HX.out.belowT (Since.property _)))))
 go_big_quiet_step ((go_at_call 57;exact calls_since _ (operand_of x.1 x.2 HEE.out HOL.out _ _ (HX.out.belowT (Since.property _)))))
 go_big_quiet_step ((go_at_call 57;exact calls_since _ (operand_of x.1 x.2 HEE.out HOL.out _ _ (HX.out.belowT (Since.property _)))))
 go_big_quiet_step ((go_at_call 57;exact calls_since _ (operand_of x.1 x.2 HEE.out HOL.out _ _ (HX.out.belowT (Since.property _)))))
 go_big_quiet_step ((go_at_call 57;exact calls_since _ (operand_of x.1 x.2 HEE.out HOL.out _ _ (HX.out.belowT (Since.property _)))))
 repeat (go_big_quiet_step ((first | (go_at_call 57;exact calls_since _ (operand_of y.1 y.2 HEF.out HOL2.out _ _ (HY.out.belowT (Since.property _)))))))
 refine wpQuiet_nil ?_
 intro w2 hb2
 clear g1 m0 m1 m2 m3 m4 m5 n0 n1 n2 n3 n4 n5
 go_wp2_with fail
 refine bodyPost_ret (v:=.string (st (opd x.1 (fmtE x.1 x.2)++32::124::124::32::opd y.1 (fmtE y.1 y.2)))) (by simp [results,Tryd.results43,go_sem]) rfl ?_
 exact⟨(by rw [HV.out];try simp [List.append_assoc]),HB1.out.trans (hb2.mono HB1.out.size)⟩
theorem list_args (ar:Fo) (hE : ∀ j x,ar.get j=some x->EOK x.1 x.2) (hl:tot (fmts ar)<=1000000) (hn:ar.len<=1000) (w:World) (a:Option Addr) (c:Nat) (h:ArgsAt w (fun _=>True) ar (.slice a ar.len c)) :
  Calls Tryd.prog 58 #[.slice a ar.len c] w fun e w'=>e=.returned (.string (st (listB ((fmts ar).map (·.2)))))/\Below w.heap.size w w':=by
 obtain⟨a',c',rws,e,_,_,_,h4,h5⟩:=h
 injection e with e1 e2 e3
 subst e1 e3
 exact list_of ar hE hl hn w a c rws h4 h5
theorem listB_len (ar:Fo):(listB ((fmts ar).map (·.2))).length<=tot (fmts ar)+2 * ar.len+2:=by
 have:=comm_len (fmts ar)
 rw [fmts_len] at this
 simp [listB,paren];omega
set_option maxRecDepth 100000 in
set_option maxHeartbeats 8000000 in
theorem Expr_call (h:Hd) (ar:Fo) (hkk:h.k=9) (hn:h.nm.length<=4) (hE : ∀ j x,ar.get j=some x->EOK x.1 x.2) (hl:tot (fmts ar)<=1000000) (hn3:ar.len<=3):EOK h ar:=by
 intro w sl ha
 have HA0:=Lib.hid ha
 obtain⟨a,c,rws,rfl,hlc,hcm,-,-,-⟩:=ha
 have hb1:=below_alloc w (.cells #[.int .i64 h.k,.int .i64 h.op,.int .i64 h.v,.int .i64 h.ln,.string (st h.nm),.slice a ar.len c] 40)
 have hr1:=heap_alloc_new w (.cells #[.int .i64 h.k,.int .i64 h.op,.int .i64 h.v,.int .i64 h.ln,.string (st h.nm),.slice a ar.len c] 40)
 have HA1:=Lib.hid (HA0.out.belowT hb1)
 have HV:Hid (fmtE h ar=h.nm++listB ((fmts ar).map (·.2))):=Lib.hid (by show fmt1 h (fmts ar)=_;unfold fmt1;simp [hkk])
 have HKK:=Lib.hid hkk
 clear hkk
 go_enter Tryd.func43,Tryd.ntmps43
 go_upto_region 1 with fail
 obtain⟨w1,hw1⟩ : ∃ W,w.alloc (.cells #[.int .i64 h.k,.int .i64 h.op,.int .i64 h.v,.int .i64 h.ln,.string (st h.nm),.slice a ar.len c] 40)=W:=⟨_,rfl⟩
 obtain⟨g,hg⟩ : ∃ x,w.heap.size=x:=⟨_,rfl⟩
 rw [hw1] at hb1 hr1 HA1 ⊢
 rw [hg] at hr1
 (try rw [hg])
 have HB1:=Lib.hid hb1
 obtain⟨p0,p1,p2,p3,p4,p5⟩:=cells6 hr1
 clear hw1 hb1 hr1 hg
 have hk:=HKK.out
 rw [hk] at p0
 clear hk
 have HLA:=Lib.hid (list_args ar hE hl (by omega))
 have hbl:=listB_len ar
 clear hE
 go_upto_region 29 with fail
 refine wp_region_below (by kernel_rfl) (by kernel_rfl) ?_
 have g0 : ∀ s:Since w1,s.val.cell? ⟨g,4,none⟩=some (.string (st h.nm)):=fun s=>s.cell p4
 have g1 : ∀ s:Since w1,s.val.cell? ⟨g,5,none⟩=some (.slice a ar.len c):=fun s=>s.cell p5
 have hst:=st_app
 repeat (go_big_quiet_step ((first | (go_at_call 58;exact calls_since _ (HLA.out _ _ _ (HA1.out.belowT (Since.property _)))))))
 refine wpQuiet_nil ?_
 intro w2 hb2
 clear g0 g1
 go_wp2_with fail
 refine bodyPost_ret (v:=.string (st (h.nm++listB ((fmts ar).map (·.2))))) (by simp [results,Tryd.results43,go_sem]) rfl ?_
 exact⟨by rw [HV.out],HB1.out.trans (hb2.mono HB1.out.size)⟩
theorem list_tail (hd:Hd) (bs r:Fo) (hE : ∀ j x,r.get j=some x->EOK x.1 x.2) (hl:tot (fmts r)<=1000000) (hn:r.len<=1000) (w:World) (b off c c2:Nat) (h:ArgsAt w (fun _=>True) (.cons hd bs r) (.slice (some ⟨b,off,none⟩) (r.len+1) c)) :
  Calls Tryd.prog 58 #[.slice (some ⟨b,off+6,none⟩) r.len c2] w fun e w'=>e=.returned (.string (st (listB ((fmts r).map (·.2)))))/\Below w.heap.size w w':=by
 obtain⟨a',c',rws,e,_,_,_,h4,h5⟩:=h
 injection e with e1 e2 e3
 subst e1 e3
 obtain⟨a1,c1,rw1,cs',rfl,_,_,_,_,_,h6⟩:=h5
 refine list_of r hE hl hn w (some ⟨b,off+6,none⟩) c2 cs' (fun hne=>?_) h6
 obtain⟨b',off',e,_,hb,hc⟩:=h4 (by simp)
 injection e with e
 injection e with e1 e2
 subst e1 e2
 refine⟨b,off+6,rfl,trivial,hb,fun j u hj=>?_⟩
 have:=hc (6+j) u (by
  rw [List.getElem?_append_right (by show 6<=_;omega)]
  show cs'[6+j - 6]?=_
  rw [Nat.add_sub_cancel_left];exact hj)
 rw [Nat.add_assoc];exact this
set_option maxRecDepth 100000 in
set_option maxHeartbeats 8000000 in
theorem Expr_value (h:Hd) (ar:Fo) (hkk:h.k=10) (x:Hd×Fo) (r:Fo) (har:ar=.cons x.1 x.2 r) (h13:x.1.k≠13/\x.1.k≠2/\x.1.k≠3) (hE:EOK x.1 x.2) (hEr : ∀ j y,r.get j=some y->EOK y.1 y.2) (hl:(fmtE x.1 x.2).length<=1000000) (hlr:tot (fmts r)<=1000000) (hn3:r.len<=3):EOK h ar:=by
 intro w sl ha
 have HA0:=Lib.hid ha
 obtain⟨a,c,rws,rfl,hlc,hcm,-,-,-⟩:=ha
 have hb1:=below_alloc w (.cells #[.int .i64 h.k,.int .i64 h.op,.int .i64 h.v,.int .i64 h.ln,.string (st h.nm),.slice a ar.len c] 40)
 have hr1:=heap_alloc_new w (.cells #[.int .i64 h.k,.int .i64 h.op,.int .i64 h.v,.int .i64 h.ln,.string (st h.nm),.slice a ar.len c] 40)
 have HA1:=Lib.hid (HA0.out.belowT hb1)
 have HV:Hid (fmtE h ar=opd x.1 (fmtE x.1 x.2)++listB ((fmts r).map (·.2))):=Lib.hid (by
  subst har
  show fmt1 h ((x.1,fmt1 x.1 (fmts x.2))::fmts r)=opd x.1 (fmt1 x.1 (fmts x.2))++listB ((fmts r).map (·.2))
  generalize fmt1 x.1 (fmts x.2)=t
  generalize fmts r=os
  unfold fmt1
  simp [hkk,h13.1,h13.2.1,h13.2.2])
 have hlen:ar.len=r.len+1:=by subst har;rfl
 have HLN:=Lib.hid hlen
 have hx:ar.get 0=some x:=by subst har;rfl
 have HAR:=Lib.hid har
 clear har hlen
 have HKK:=Lib.hid hkk
 clear hkk
 go_enter Tryd.func43,Tryd.ntmps43
 go_upto_region 1 with fail
 obtain⟨w1,hw1⟩ : ∃ W,w.alloc (.cells #[.int .i64 h.k,.int .i64 h.op,.int .i64 h.v,.int .i64 h.ln,.string (st h.nm),.slice a ar.len c] 40)=W:=⟨_,rfl⟩
 obtain⟨g,hg⟩ : ∃ x,w.heap.size=x:=⟨_,rfl⟩
 rw [hw1] at hb1 hr1 HA1 ⊢
 rw [hg] at hr1
 (try rw [hg])
 have HB1:=Lib.hid hb1
 obtain⟨p0,p1,p2,p3,p4,p5⟩:=cells6 hr1
 clear hw1 hb1 hr1 hg
 have hk:=HKK.out
 rw [hk] at p0
 clear hk
 obtain⟨b,off,asl,csl,rfl,hbl,HX,k0,k1,k2,k3,k4,k5⟩:=HA1.out.elem hx
 rw [Nat.zero_mul,Nat.add_zero] at k0 k1 k2 k3 k4 k5
 rw [HLN.out] at p5 hlc
 (try rw [HLN.out])
 have HLT:Hid (∀ W,Below w1.heap.size w1 W -> ∀ c2,Calls Tryd.prog 58 #[.slice (some ⟨b,off+6,none⟩) r.len c2] W fun e w'=>e=.returned (.string (st (listB ((fmts r).map (·.2)))))/\Below W.heap.size W w'):=Lib.hid (fun W hW c2=>list_tail x.1 x.2 r hEr hlr (by omega) W b off c c2 (by
  have:=HA1.out.belowT hW
  rw [HLN.out,HAR.out] at this
  exact this))
 have hbl2:=listB_len r
 have hol:=opd_len x.1 (fmtE x.1 x.2)
 have HOP:=Lib.hid (operand_of x.1 x.2 hE hl)
 have d13:(x.1.k==13)=false:=by rw [beq_eq_false_iff_ne];exact h13.1
 have d2:(x.1.k==2)=false:=by rw [beq_eq_false_iff_ne];exact h13.2.1
 have d3:(x.1.k==3)=false:=by rw [beq_eq_false_iff_ne];exact h13.2.2
 clear hE hEr hx h13
 have hcm2:c<=9223372036854775807:=by unfold maxLen at hcm;omega
 have hbq:=below_alloc w1 (.cells #[.int .i64 x.1.k,.int .i64 x.1.op,.int .i64 x.1.v,.int .i64 x.1.ln,.string (st x.1.nm),.slice asl x.2.len csl] 40)
 have hrq:=heap_alloc_new w1 (.cells #[.int .i64 x.1.k,.int .i64 x.1.op,.int .i64 x.1.v,.int .i64 x.1.ln,.string (st x.1.nm),.slice asl x.2.len csl] 40)
 have HP5:=Lib.hid p5
 go_upto_region 33 with fail
 obtain⟨wq,hwq⟩ : ∃ W,w1.alloc (.cells #[.int .i64 x.1.k,.int .i64 x.1.op,.int .i64 x.1.v,.int .i64 x.1.ln,.string (st x.1.nm),.slice asl x.2.len csl] 40)=W:=⟨_,rfl⟩
 obtain⟨gq,hgq⟩ : ∃ y,w1.heap.size=y:=⟨_,rfl⟩
 rw [hwq] at hbq hrq ⊢
 rw [hgq] at hrq
 (try rw [hgq])
 have HBQ:=Lib.hid hbq
 have HRQ:=Lib.hid hrq
 obtain⟨s0,s1,s2,s3,s4,s5⟩:=cells6 hrq
 clear hwq hgq hbq hrq k0 k1 k2 k3 k4 k5 p0 p1 p2 p3 p4 p5
 go_wp2_with fail
 refine(HOP.out _ _ (HX.out.belowT HBQ.out)).mono ?_
 rintro e wr ⟨rfl,hbr⟩
 have HBR:=Lib.hid (HBQ.out.trans (hbr.mono HBQ.out.size))
 have p5:=(HBR.out.cell (p:=⟨g,5,none⟩) (block_lt_of_cell HP5.out)).trans HP5.out
 obtain⟨s0,s1,s2,s3,s4,s5⟩:=cells6 ((hbr.block gq (heap_lt HRQ.out)).trans HRQ.out)
 clear hbr
 have hst:=st_app
 by_cases hc1:c=1
 ·subst hc1
  have hr0:r.len=0:=by omega
  have HL0:Hid (∀ W a2 c2,Calls Tryd.prog 58 #[.slice a2 0 c2] W fun e w'=>e=.returned (.string (st (listB ((fmts r).map (·.2)))))/\Below W.heap.size W w'):=Lib.hid (fun W a2 c2=>by
   cases r with
   | nil=>exact list_of .nil (fun j y hy=>nomatch hy) (by simp [fmts,tot]) (by simp [Fo.len]) W a2 c2 [] (fun hne=>absurd rfl hne) rfl
   | cons _ _ _=>simp [Fo.len] at hr0)
  clear hr0
  go_wp2_with fail
  refine(HL0.out _ _ _).mono ?_
  rintro e wz ⟨rfl,hbz⟩
  have HBZ:=Lib.hid (HB1.out.trans ((HBR.out.trans (hbz.mono HBR.out.size)).mono HB1.out.size))
  clear hbz
  go_wp2_with fail
  refine bodyPost_ret (v:=.string (st (opd x.1 (fmtE x.1 x.2)++listB ((fmts r).map (·.2))))) (by simp [results,Tryd.results43,go_sem]) rfl ?_
  exact⟨by rw [HV.out],HBZ.out⟩
 ·have hc2:1<c:=by omega
  go_wp2_with fail
  refine(HLT.out _ HBR.out _).mono ?_
  rintro e wz ⟨rfl,hbz⟩
  have HBZ:=Lib.hid (HB1.out.trans ((HBR.out.trans (hbz.mono HBR.out.size)).mono HB1.out.size))
  clear hbz
  go_wp2_with fail
  refine bodyPost_ret (v:=.string (st (opd x.1 (fmtE x.1 x.2)++listB ((fmts r).map (·.2))))) (by simp [results,Tryd.results43,go_sem]) rfl ?_
  exact⟨by rw [HV.out],HBZ.out⟩
end Go.Proofs.YtpcdinelpfbpfaaDoor
namespace Go.Proofs.YtpcdinelpfbpfaaDoor
open Go.ChangeShapes Go.WideShapes Go.ChangeAt Go.RowKit
set_option linter.unusedVariables false
set_option linter.unusedSimpArgs false

theorem okH.not23 {h:Hd} {ar:Fo} (k:okH h ar):h.k≠2/\h.k≠3:=by
 rcases k with⟨_,_,k⟩ | ⟨_,k,_⟩ | ⟨_,_,k⟩
 ·rcases k with⟨k,_⟩ | ⟨k,_⟩ | ⟨k,_⟩ | ⟨k,_⟩ | ⟨k,_⟩ | ⟨k,_⟩ | ⟨k,_⟩ <;> omega
 ·omega
 ·rcases k with⟨k,_⟩ | ⟨k,_⟩ <;> omega
theorem okN.len {nm:Bt} (h:okN nm):nm.length<=4:=by
 obtain⟨_,_,_,_,_,_,hl⟩:=h
 exact hl
theorem Fo.get_wf {F:Fo} (hw:F.wf) {j:Nat} {x:Hd×Fo} (hj:F.get j=some x):okH x.1 x.2/\x.2.wf/\own x.1 x.2.len+x.2.cst<=F.cst:=by
 induction F generalizing j with
 | nil=>cases hj
 | cons h ar r _ ih =>
  cases j with
  | zero =>
   have e:(h,ar)=x:=by injection hj
   subst e
   exact⟨hw.1,hw.2.2.1,by show own h ar.len+ar.cst<=own h ar.len+ar.cst+r.cst;omega⟩
  | succ j =>
   obtain⟨h1,h2,h3⟩:=ih hw.2.2.2 hj
   exact⟨h1,h2,by show _<=own h ar.len+ar.cst+r.cst;omega⟩
theorem Fo.get_len {F:Fo} {j:Nat} {x:Hd×Fo} (hw:F.wf) (hc:F.cst<=1000000) (hj:F.get j=some x):(fmtE x.1 x.2).length<=1000000:=by
 obtain⟨h1,h2,h3⟩:=Fo.get_wf hw hj
 exact Nat.le_trans (fmtE_len x.1 x.2 h1 h2) (by omega)
theorem EOK_one (h:Hd) (ar:Fo) (hok:okH h ar) (hw:ar.wf) (hc:ar.cst<=1000000) (hE : ∀ j x,ar.get j=some x->EOK x.1 x.2):EOK h ar:=by
 have ht:=Nat.le_trans (fmts_cst ar hw) hc
 rcases hok with⟨_,_,k⟩ | ⟨_,k,_,k0,k1,_⟩ | ⟨_,_,k⟩
 ·rcases k with⟨k,hn,_⟩ | ⟨k,_⟩ | ⟨k,hn,_⟩ | ⟨k,hn,hl⟩ | ⟨k,_,hl⟩ | ⟨k,hn,hl⟩ | ⟨k,_,g,bs,r,rfl,hg,hr⟩
  ·exact Expr_name h ar k
  ·exact Expr_read h ar k
  ·exact Expr_func h ar k hn.len
  ·obtain⟨x,hx⟩:=Fo.get_lt (F:=ar) (i:=0) (by omega)
   exact Expr_element h ar k hn.len x hx hl (hE 0 x hx) (Fo.get_len hw hc hx)
  ·obtain⟨x,hx⟩:=Fo.get_lt (F:=ar) (i:=0) (by omega)
   obtain⟨y,hy⟩:=Fo.get_lt (F:=ar) (i:=1) (by omega)
   rcases k with k | k
   ·exact Expr_and h ar k x y hx hy hl (hE 0 x hx) (Fo.get_len hw hc hx) (hE 1 y hy) (Fo.get_len hw hc hy)
   ·exact Expr_or h ar k x y hx hy hl (hE 0 x hx) (Fo.get_len hw hc hx) (hE 1 y hy) (Fo.get_len hw hc hy)
  ·exact Expr_call h ar k hn.len hE ht (by omega)
  ·have h23:=hw.1.not23
   refine Expr_value h _ k (g,bs) r rfl ⟨hg,h23.1,h23.2⟩ (hE 0 _ rfl) (fun j y hy=>hE (j+1) y hy) (Fo.get_len hw hc (j:=0) rfl) ?_ (by omega)
   have:=fmts_cst r hw.2.2.2
   have h2:r.cst<=(Fo.cons g bs r).cst:=by show _<=own g bs.len+bs.cst+r.cst;omega
   omega
 ·exact Expr_number h ar k k0 k1
 ·rcases k with⟨k,o1,o2,hl⟩ | ⟨k,o1,o2,hl⟩
  ·obtain⟨x,hx⟩:=Fo.get_lt (F:=ar) (i:=0) (by omega)
   exact Expr_unary h ar k (by omega) (by omega) x hx hl (hE 0 x hx) (Fo.get_len hw hc hx)
  ·obtain⟨x,hx⟩:=Fo.get_lt (F:=ar) (i:=0) (by omega)
   obtain⟨y,hy⟩:=Fo.get_lt (F:=ar) (i:=1) (by omega)
   exact Expr_binary h ar k (by omega) (by omega) x y hx hy hl (hE 0 x hx) (Fo.get_len hw hc hx) (hE 1 y hy) (Fo.get_len hw hc hy)
theorem EOK_all (F:Fo) (hw:F.wf) (hc:F.cst<=1000000) : ∀ j x,F.get j=some x->EOK x.1 x.2:=by
 induction F with
 | nil=>intro j x hx;cases hx
 | cons h ar r ih1 ih2 =>
  have hcs:own h ar.len+ar.cst+r.cst<=1000000:=hc
  intro j x hx
  cases j with
  | zero =>
   have e:(h,ar)=x:=by injection hx
   subst e
   exact EOK_one h ar hw.1 hw.2.2.1 (by omega) (ih1 hw.2.2.1 (by omega))
  | succ j=>exact ih2 hw.2.2.2 (by omega) j x hx
end Go.Proofs.YtpcdinelpfbpfaaDoor
namespace Go.Proofs.YtpcdinelpfbpfaaDoor
open Go.ChangeShapes Go.WideShapes Go.ChangeAt Go.RowKit
set_option linter.unusedVariables false
set_option linter.unusedSimpArgs false

def tabs (n:Nat):Bt:=List.replicate n 9
def valF (xs:Fo) (i:Nat):Bt:=match (fmts xs)[i]? with | some a=>a.2 | none=>[]
def fmtS:Sf->Nat->Bt
 | .nil,_=>[]
 | .cons k _ nm xs th el r,n =>
  tabs n++((
   if k=1 then [118,97,114,32]++(nm++([32,61,32]++(valF xs 0++[59])))
   else if k=2 then nm++([32,61,32]++(valF xs 0++[59]))
   else if k=3 then nm++([91]++(valF xs 0++([93,32,61,32]++(valF xs 1++[59]))))
   else if k=6 then [114,101,116,117,114,110,32]++(valF xs 0++[59])
   else if k=7 then [112,114,105,110,116,32]++(valF xs 0++[59])
   else if k=8 then [99,97,108,108,32]++(valF xs 0++[59])
   else if k=5 then [119,104,105,108,101,32]++(valF xs 0++([32,123,10]++(fmtS th (n+1)++(tabs n++[125]))))
   else if k=4 then [105,102,32]++(valF xs 0++([32,123,10]++(fmtS th (n+1)++(tabs n++([125] ++
    (if el.len=0 then [] else [32,101,108,115,101,32,123,10]++(fmtS el (n+1)++(tabs n++[125]))))))))
   else [])++([10]++fmtS r n))
def fmtF (F:Fn):Bt:=[102,117,110,99,32]++(F.nm++([40]++(comm F.ps++([41,32,123,10]++(fmtS F.bd 1++[125,10])))))
def fmtG (x:Bt×Int):Bt:=[103,108,111,98,97,108,32]++(x.1++((if 0<x.2 then [91]++(Lib.decDigits x.2.toNat++[93]) else [])++[59,10]))
def fmtP (gs:List (Bt×Int)) (Fs:List Fn):Bt:=gs.flatMap fmtG++Fs.flatMap fmtF
end Go.Proofs.YtpcdinelpfbpfaaDoor
namespace Go.Proofs.YtpcdinelpfbpfaaDoor
open Go.ChangeShapes Go.WideShapes Go.ChangeAt Go.RowKit
set_option linter.unusedVariables false
set_option linter.unusedSimpArgs false

set_option maxRecDepth 100000 in
set_option maxHeartbeats 4000000 in
theorem value_any (k ln:Int) (nm:Bt) (xs:Fo) (at_ ae:Option Addr) (nt ct ne ce:Nat) (i:Nat) (hi:i<xs.len) (hw:xs.wf) (hc:xs.cst<=1000000) (w:World) (a:Option Addr) (c:Nat) (hx:ArgsAt w (fun _=>True) xs (.slice a xs.len c)) :
  Calls Tryd.prog 30 #[stv k ln nm (.slice a xs.len c) (.slice at_ nt ct) (.slice ae ne ce),.int .i64 (i:Int)] w fun e w'=>e=.returned (.string (st (valF xs i)))/\Below w.heap.size w w':=by
 obtain⟨x,hg⟩:=Fo.get_lt hi
 have HV:Hid (valF xs i=fmtE x.1 x.2):=Lib.hid (by unfold valF;rw [fmts_get xs i x hg])
 have HE:=Lib.hid (EOK_all xs hw hc i x hg)
 have hcm:xs.len<=c/\c<=9223372036854775807:=by
  obtain⟨_,_,_,e,h1,h2,_⟩:=hx
  injection e with e1 e2 e3
  subst e3
  unfold maxLen at h2
  omega
 obtain⟨b,off,asl,csl,rfl,hbl,HX,k0,k1,k2,k3,k4,k5⟩:=hx.elem hg
 obtain⟨n,hn⟩ : ∃ n,xs.len=n:=⟨_,rfl⟩
 rw [hn] at hi hcm
 have hb1:=below_alloc w (.cells #[.int .i64 k,.int .i64 ln,.string (st nm),.slice (some ⟨b,off,none⟩) n c,.slice at_ nt ct,.slice ae ne ce] 83)
 have m0:=(hb1.cell (p:=⟨b,off+i * 6,none⟩) hbl).trans k0
 have m1:=(hb1.cell (p:=⟨b,off+i * 6+1,none⟩) hbl).trans k1
 have m2:=(hb1.cell (p:=⟨b,off+i * 6+2,none⟩) hbl).trans k2
 have m3:=(hb1.cell (p:=⟨b,off+i * 6+3,none⟩) hbl).trans k3
 have m4:=(hb1.cell (p:=⟨b,off+i * 6+4,none⟩) hbl).trans k4
 have m5:=(hb1.cell (p:=⟨b,off+i * 6+5,none⟩) hbl).trans k5
 have HB:=Lib.hid hb1
 have HXB:=Lib.hid (HX.out.belowT hb1)
 rw [hn]
 clear hx hg hw hc hn hb1 k0 k1 k2 k3 k4 k5
 go_enter Tryd.func30,Tryd.ntmps30
 go_wp2_with fail
 refine(HE.out _ _ HXB.out).mono ?_
 rintro e w2 ⟨rfl,hb2⟩
 go_wp2_with fail
 refine bodyPost_ret (v:=.string (st (fmtE x.1 x.2))) (by simp [results,Tryd.results30,go_sem]) rfl ?_
 exact⟨by rw [HV.out],HB.out.trans (hb2.mono HB.out.size)⟩
end Go.Proofs.YtpcdinelpfbpfaaDoor
namespace Go.Proofs.YtpcdinelpfbpfaaDoor
open Go.ChangeShapes Go.WideShapes Go.ChangeAt Go.RowKit
set_option linter.unusedVariables false
set_option linter.unusedSimpArgs false

theorem tabs_len (n:Nat):(tabs n).length=n:=List.length_replicate
theorem valF_len (xs:Fo) (hw:xs.wf) (i:Nat):(valF xs i).length<=xs.cst:=by
 unfold valF
 cases h:(fmts xs)[i]? with
 | none=>simp
 | some a=>exact Nat.le_trans (tot_get _ _ _ h) (fmts_cst xs hw)
theorem tot_two (os:List (Hd×Bt)) (a b:Hd×Bt) (h0:os[0]?=some a) (h1:os[1]?=some b):a.2.length+b.2.length<=tot os:=by
 cases os with
 | nil=>simp at h0
 | cons x r =>
  cases r with
  | nil=>simp at h1
  | cons y r =>
   simp at h0 h1
   subst h0 h1
   simp only [tot];omega
theorem valF_len2 (xs:Fo) (hw:xs.wf):(valF xs 0).length+(valF xs 1).length<=xs.cst:=by
 have h0:=valF_len xs hw 0
 have h1:=valF_len xs hw 1
 have hc:=fmts_cst xs hw
 unfold valF at h0 h1 ⊢
 cases e0:(fmts xs)[0]? with
 | none=>rw [e0] at h0;cases e1:(fmts xs)[1]? with
  | none=>simp
  | some b=>rw [e1] at h1;simpa using h1
 | some a=>rw [e0] at h0;cases e1:(fmts xs)[1]? with
  | none=>simpa using h0
  | some b=>exact Nat.le_trans (tot_two _ a b e0 e1) hc
theorem okS.nm {k:Int} {nm:Bt} {xs:Fo} {th el:Sf} (h:okS k nm xs th el):nm.length<=4:=by
 rcases h with⟨_,h,_⟩ | ⟨_,h,_⟩ | ⟨_,h,_⟩ | ⟨_,h,_⟩ | ⟨_,h,_⟩ | ⟨_,h,_⟩
 ·exact h.len
 ·exact h.len
 all_goals (rw [h];simp)
def body1 (k:Int) (nm:Bt) (xs:Fo) (th el:Sf) (n:Nat):Bt :=
   if k=1 then [118,97,114,32]++(nm++([32,61,32]++(valF xs 0++[59])))
   else if k=2 then nm++([32,61,32]++(valF xs 0++[59]))
   else if k=3 then nm++([91]++(valF xs 0++([93,32,61,32]++(valF xs 1++[59]))))
   else if k=6 then [114,101,116,117,114,110,32]++(valF xs 0++[59])
   else if k=7 then [112,114,105,110,116,32]++(valF xs 0++[59])
   else if k=8 then [99,97,108,108,32]++(valF xs 0++[59])
   else if k=5 then [119,104,105,108,101,32]++(valF xs 0++([32,123,10]++(fmtS th (n+1)++(tabs n++[125]))))
   else if k=4 then [105,102,32]++(valF xs 0++([32,123,10]++(fmtS th (n+1)++(tabs n++([125] ++
    (if el.len=0 then [] else [32,101,108,115,101,32,123,10]++(fmtS el (n+1)++(tabs n++[125]))))))))
   else []
theorem fmtS_cons (k ln:Int) (nm:Bt) (xs:Fo) (th el r:Sf) (n:Nat):fmtS (.cons k ln nm xs th el r) n=tabs n++(body1 k nm xs th el n++([10]++fmtS r n)):=rfl
theorem fmtS_len (S:Sf) (hw:S.wf) (n:Nat) (hn:S.nst+n<=10):(fmtS S n).length<=S.cst:=by
 induction S generalizing n with
 | nil=>simp [fmtS]
 | cons k ln nm xs th el r ih1 ih2 ih3 =>
  obtain⟨hok,_,hx,ht,he,hr⟩:=hw
  simp only [Sf.nst] at hn
  have h1:=ih1 ht (n+1) (by omega)
  have h2:=ih2 he (n+1) (by omega)
  have h3:=ih3 hr n (by omega)
  have hv0:=valF_len xs hx 0
  have hv2:=valF_len2 xs hx
  have hnm:=hok.nm
  have htab:=tabs_len n
  have hb:(body1 k nm xs th el n).length<=50+xs.cst+th.cst+el.cst:=by
   unfold body1
   split
   ·simp only [List.length_append,List.length_cons,List.length_nil];omega
   split
   ·simp only [List.length_append,List.length_cons,List.length_nil];omega
   split
   ·simp only [List.length_append,List.length_cons,List.length_nil];omega
   split
   ·simp only [List.length_append,List.length_cons,List.length_nil];omega
   split
   ·simp only [List.length_append,List.length_cons,List.length_nil];omega
   split
   ·simp only [List.length_append,List.length_cons,List.length_nil];omega
   split
   ·simp only [List.length_append,List.length_cons,List.length_nil];omega
   split
   ·split
    ·simp only [List.length_append,List.length_cons,List.length_nil];omega
    ·simp only [List.length_append,List.length_cons,List.length_nil];omega
   ·simp
  rw [fmtS_cons]
  simp only [List.length_append,List.length_cons,List.length_nil,Sf.cst]
  omega
end Go.Proofs.YtpcdinelpfbpfaaDoor
namespace Go.Proofs.YtpcdinelpfbpfaaDoor
open Go.ChangeShapes Go.WideShapes Go.ChangeAt Go.RowKit
set_option linter.unusedVariables false
set_option linter.unusedSimpArgs false

structure S1 where
 k:Int
 ln:Int
 nm:Bt
 xs:Fo
 th:Sf
 el:Sf
def Sf.get:Sf->Nat->Option S1
 | .nil,_=>none
 | .cons k ln nm xs th el _,0=>some ⟨k,ln,nm,xs,th,el⟩
 | .cons _ _ _ _ _ _ r,i+1=>r.get i
def Sf.pre:Sf->Nat->Sf
 | .nil,_=>.nil
 | .cons _ _ _ _ _ _ _,0=>.nil
 | .cons k ln nm xs th el r,i+1=>.cons k ln nm xs th el (r.pre i)
theorem Sf.get_lt {S:Sf} {i:Nat} (h:i<S.len) : ∃ x,S.get i=some x:=by
 induction S generalizing i with
 | nil=>simp [Sf.len] at h
 | cons k ln nm xs th el r _ _ ih =>
  cases i with
  | zero=>exact⟨_,rfl⟩
  | succ i=>exact ih (by simp only [Sf.len] at h;omega)
theorem Sf.pre_zero (S:Sf):S.pre 0=.nil:=by cases S <;> rfl
theorem Sf.pre_all (S:Sf):S.pre S.len=S:=by
 induction S with
 | nil=>rfl
 | cons k ln nm xs th el r _ _ ih=>show Sf.cons k ln nm xs th el (r.pre r.len)=_;rw [ih]
theorem fmtS_pre (S:Sf) (i:Nat) (x:S1) (h:S.get i=some x) (n:Nat):fmtS (S.pre (i+1)) n=fmtS (S.pre i) n++(tabs n++(body1 x.k x.nm x.xs x.th x.el n++[10])):=by
 induction S generalizing i with
 | nil=>cases h
 | cons k ln nm xs th el r _ _ ih =>
  cases i with
  | zero =>
   injection h with h
   subst h
   show fmtS (.cons k ln nm xs th el (r.pre 0)) n=[]++_
   rw [fmtS_cons,Sf.pre_zero,List.nil_append]
   rfl
  | succ i =>
   show fmtS (.cons k ln nm xs th el (r.pre (i+1))) n=fmtS (.cons k ln nm xs th el (r.pre i)) n++_
   rw [fmtS_cons,fmtS_cons,ih i h]
   simp [List.append_assoc]
theorem fmtS_pre_len (S:Sf) (i n:Nat):(fmtS (S.pre i) n).length<=(fmtS S n).length:=by
 induction S generalizing i with
 | nil=>exact Nat.le_refl _
 | cons k ln nm xs th el r _ _ ih =>
  cases i with
  | zero=>simp [Sf.pre,fmtS]
  | succ i =>
   show (fmtS (.cons k ln nm xs th el (r.pre i)) n).length<=_
   rw [fmtS_cons,fmtS_cons]
   have:=ih i
   simp only [List.length_append]
   omega
theorem Sf.get_wf {S:Sf} (hw:S.wf) {i:Nat} {x:S1} (h:S.get i=some x):okS x.k x.nm x.xs x.th x.el/\x.xs.wf/\x.th.wf/\x.el.wf/\x.xs.cst<=S.cst/\x.th.cst<=S.cst/\x.el.cst<=S.cst/\x.th.nst+1<=S.nst/\x.el.nst+1<=S.nst:=by
 induction S generalizing i with
 | nil=>cases h
 | cons k ln nm xs th el r _ _ ih =>
  cases i with
  | zero =>
   injection h with h
   subst h
   obtain⟨h1,_,h2,h3,h4,_⟩:=hw
   simp only [Sf.cst,Sf.nst]
   exact⟨h1,h2,h3,h4,by omega,by omega,by omega,by omega,by omega⟩
  | succ i =>
   obtain⟨h1,h2,h3,h4,h5,h6,h7,h8,h9⟩:=ih hw.2.2.2.2.2 h
   simp only [Sf.cst,Sf.nst]
   exact⟨h1,h2,h3,h4,by omega,by omega,by omega,by omega,by omega⟩
theorem StsAt.elem {w:World} {S:Sf} {a:Option Addr} {c:Nat} (h:StsAt w (fun _=>True) S (.slice a S.len c)) {j:Nat} {x:S1} (hj:S.get j=some x) :
  ∃ b off ax cx at_ ct ae ce,a=some ⟨b,off,none⟩/\b<w.heap.size/\Hid (ArgsAt w (fun _=>True) x.xs (.slice ax x.xs.len cx))/\Hid (StsAt w (fun _=>True) x.th (.slice at_ x.th.len ct))/\Hid (StsAt w (fun _=>True) x.el (.slice ae x.el.len ce)) /\
   w.cell? ⟨b,off+j * 6,none⟩=some (.int .i64 x.k)/\w.cell? ⟨b,off+j * 6+1,none⟩=some (.int .i64 x.ln)/\w.cell? ⟨b,off+j * 6+2,none⟩=some (.string (st x.nm))/\w.cell? ⟨b,off+j * 6+3,none⟩=some (.slice ax x.xs.len cx)/\w.cell? ⟨b,off+j * 6+4,none⟩=some (.slice at_ x.th.len ct)/\w.cell? ⟨b,off+j * 6+5,none⟩=some (.slice ae x.el.len ce):=by
 obtain⟨a',c',rws,e,h1,h2,h3,h4,h5⟩:=h
 injection e with e1 e2 e3
 subst e1
 clear e2 e3 h1 h2 h3
 have key : ∀ (F:Sf) (cs:List Value) (j:Nat),SfAt w (fun _=>True) F cs->F.get j=some x -> ∃ ax cx at_ ct ae ce,ArgsAt w (fun _=>True) x.xs (.slice ax x.xs.len cx)/\StsAt w (fun _=>True) x.th (.slice at_ x.th.len ct)/\StsAt w (fun _=>True) x.el (.slice ae x.el.len ce) /\
   ∀ i u,(stc x.k x.ln x.nm (.slice ax x.xs.len cx) (.slice at_ x.th.len ct) (.slice ae x.el.len ce))[i]?=some u->cs[j * 6+i]?=some u:=by
  intro F
  induction F with
  | nil=>intro cs j _ hg;cases hg
  | cons k ln nm xs th el r _ _ ih =>
   intro cs j hF hg
   obtain⟨slx,at_,ct,rt,ae,ce,re,cs',rfl,k1,k2,k3,k4,k5,k6,k7,k8,k9,k10,k11,k12⟩:=hF
   cases j with
   | zero =>
    injection hg with hg
    subst hg
    obtain⟨ax,cx,rx,rfl,r1⟩:=id k1
    refine⟨ax,cx,at_,ct,ae,ce,k1,⟨at_,ct,rt,rfl,k2,k3,k4,k5,k6⟩,⟨ae,ce,re,rfl,k7,k8,k9,k10,k11⟩,fun i u hi=>?_⟩
    have:i<6:=(List.getElem?_eq_some_iff.1 hi).1
    rw [Nat.zero_mul,Nat.zero_add,List.getElem?_append_left (by simpa using this)]
    exact hi
   | succ j =>
    obtain⟨ax,cx,at2,ct2,ae2,ce2,q1,q2,q3,q4⟩:=ih cs' j k12 hg
    refine⟨ax,cx,at2,ct2,ae2,ce2,q1,q2,q3,fun i u hi=>?_⟩
    rw [List.getElem?_append_right (by show 6<=_;omega)]
    have e:(j+1) * 6+i - 6=j * 6+i:=by omega
    show cs'[(j+1) * 6+i - 6]?=_
    rw [e]
    exact q4 i u hi
 obtain⟨ax,cx,at_,ct,ae,ce,q1,q2,q3,q4⟩:=key S rws j h5 hj
 obtain⟨b,off,rfl,_,hb,hcell⟩:=h4 (fun e=>by have:=q4 0 _ rfl;rw [e] at this;cases this)
 have hk : ∀ i u,(stc x.k x.ln x.nm (.slice ax x.xs.len cx) (.slice at_ x.th.len ct) (.slice ae x.el.len ce))[i]?=some u->w.cell? ⟨b,off+(j * 6+i),none⟩=some u:=fun i u hi=>hcell _ _ (q4 i u hi)
 exact⟨b,off,ax,cx,at_,ct,ae,ce,rfl,hb,Lib.hid q1,Lib.hid q2,Lib.hid q3,hk 0 _ rfl,by rw [Nat.add_assoc];exact hk 1 _ rfl,by rw [Nat.add_assoc];exact hk 2 _ rfl,by rw [Nat.add_assoc];exact hk 3 _ rfl,by rw [Nat.add_assoc];exact hk 4 _ rfl,by rw [Nat.add_assoc];exact hk 5 _ rfl⟩
theorem StsAt.belowT {w w':World} {S:Sf} {sl:Value} (h:StsAt w (fun _=>True) S sl) (hb:Below w.heap.size w w'):StsAt w' (fun _=>True) S sl:=h.keep (fun b _ hlt=>⟨hb.block b hlt,trivial⟩) hb.size
def BOK (S:Sf):Prop := ∀ (n:Nat) (t:Bt),t=tabs n->S.nst+n<=10 -> ∀ (W:World) (sl:Value),StsAt W (fun _=>True) S sl->Calls Tryd.prog 19 #[sl,.string (st t)] W fun e w'=>e=.returned (.string (st (fmtS S n)))/\Below W.heap.size W w'
theorem tabs_snoc (n:Nat):tabs n++[9]=tabs (n+1):=by unfold tabs;rw [<- List.replicate_succ']
theorem BOK.call {S:Sf} (h:BOK S) {n:Nat} {t:Bt} (ht:t=tabs n) (hn:S.nst+n<=10) {a:Option Addr} {c:Nat} (W:World) (hs:StsAt W (fun _=>True) S (.slice a S.len c)):Calls Tryd.prog 19 #[.slice a S.len c,.string (st t)] W fun e w'=>e=.returned (.string (st (fmtS S n)))/\Below W.heap.size W w':=h n t ht hn W _ hs
set_option maxRecDepth 100000 in
set_option maxHeartbeats 40000000 in
theorem blk_one (S:Sf) (hw:S.wf) (hc:S.cst<=1000000) (hB : ∀ j x,S.get j=some x->BOK x.th/\BOK x.el):BOK S:=by
 intro n T hT hn w sl hs
 have HS0:=Lib.hid hs
 obtain⟨a,c,rws,rfl,hlc,hcm,-,-,-⟩:=hs
 have hlen:=Nat.le_trans (fmtS_len S hw n hn) hc
 have HLEN:=Lib.hid hlen
 have HWF:=Lib.hid hw
 have HCS:=Lib.hid hc
 have HBB:=Lib.hid hB
 have HTT:=Lib.hid hT
 have HN:=Lib.hid hn
 have htl:T.length<=10:=by rw [hT,tabs_len];omega
 clear hw hc hB hlen hT hn
 obtain⟨N,hN⟩ : ∃ N,S.len=N:=⟨_,rfl⟩
 rw [hN] at hlc ⊢
 have HNN:=Lib.hid hN
 clear hN
 have hcap:N<=9223372036854775807:=by unfold maxLen at hcm;omega
 go_enter Tryd.func19,Tryd.ntmps19
 go_upto_block 0 with fail
 go_wp2_with fail
 go_loopw [5,6] (fun v5 v6 wr => ∃ i:Nat,i<=N/\v5=.string (st (fmtS (S.pre i) n))/\v6=.int .i64 i/\Hid (Below w.heap.size w wr)) (fun _ v6 _=>N - (intOf v6).toNat)
 case atStart=>exact⟨0,by omega,(by rw [Sf.pre_zero];rfl),rfl,Lib.hid (Below.refl _ _)⟩
 case round =>
  obtain⟨i,hi,rfl,rfl,HR⟩:=hrel
  have hpl:=Nat.le_trans (fmtS_pre_len S i n) HLEN.out
  by_cases hlt:i<N
  ·obtain⟨x,hx⟩:=Sf.get_lt (S:=S) (i:=i) (by rw [HNN.out];exact hlt)
   have HPRE:=Lib.hid (fmtS_pre S i x hx n)
   have hpl2:=Nat.le_trans (fmtS_pre_len S (i+1) n) HLEN.out
   have hbl:(body1 x.k x.nm x.xs x.th x.el n).length<=1000000:=by
    rw [HPRE.out] at hpl2
    simp only [List.length_append] at hpl2
    omega
   clear hpl2
   obtain⟨hok,hxw,htw,hew,hxc,htc,hec,htn,hen⟩:=Sf.get_wf HWF.out hx
   have HXW:=Lib.hid hxw
   have HXC:=Lib.hid (Nat.le_trans hxc HCS.out)
   have HTN:Hid (x.th.nst+(n+1)<=10):=Lib.hid (by have:=HN.out;omega)
   have HEN:Hid (x.el.nst+(n+1)<=10):=Lib.hid (by have:=HN.out;omega)
   have HBT:=Lib.hid (HBB.out i x hx).1
   have HBE:=Lib.hid (HBB.out i x hx).2
   have HTL:Hid ((fmtS x.th (n+1)).length<=1000000):=Lib.hid (Nat.le_trans (fmtS_len x.th htw (n+1) HTN.out) (Nat.le_trans htc HCS.out))
   have HEL:Hid ((fmtS x.el (n+1)).length<=1000000):=Lib.hid (Nat.le_trans (fmtS_len x.el hew (n+1) HEN.out) (Nat.le_trans hec HCS.out))
   have hnm:=hok.nm
   have HV0:=Lib.hid (Nat.le_trans (valF_len x.xs hxw 0) HXC.out)
   have HV1:=Lib.hid (Nat.le_trans (valF_len x.xs hxw 1) HXC.out)
   clear hxw htw hew hxc htc hec htn hen
   have hat:=HS0.out.belowT HR.out
   rw [HNN.out] at hat
   obtain⟨b,off,ax,cx,at_,ct,ae,ce,rfl,hbb,HX,HTH,HEH,k0,k1,k2,k3,k4,k5⟩:=StsAt.elem (S:=S) (j:=i) (x:=x) (by rw [HNN.out];exact hat) hx
   clear hat hx
   obtain⟨k,ln,nm,xs,th,el⟩:=x
   dsimp only at *
   have hb1:=below_alloc wr (.cells #[.int .i64 k,.int .i64 ln,.string (st nm),.slice ax xs.len cx,.slice at_ th.len ct,.slice ae el.len ce] 83)
   have hr1:=heap_alloc_new wr (.cells #[.int .i64 k,.int .i64 ln,.string (st nm),.slice ax xs.len cx,.slice at_ th.len ct,.slice ae el.len ce] 83)
   have HX1:=Lib.hid (HX.out.belowT hb1)
   have HTH1:=Lib.hid (HTH.out.belowT hb1)
   have HEH1:=Lib.hid (HEH.out.belowT hb1)
   obtain⟨P,hP⟩ : ∃ P,fmtS (S.pre i) n=P:=⟨_,rfl⟩
   rw [hP] at hpl ⊢
   have HPP:=Lib.hid hP
   clear hP
   go_upto_region 6 with fail
   obtain⟨w1,hw1⟩ : ∃ W,wr.alloc (.cells #[.int .i64 k,.int .i64 ln,.string (st nm),.slice ax xs.len cx,.slice at_ th.len ct,.slice ae el.len ce] 83)=W:=⟨_,rfl⟩
   obtain⟨g,hg⟩ : ∃ x,wr.heap.size=x:=⟨_,rfl⟩
   rw [hw1] at hb1 hr1 HX1 HTH1 HEH1 ⊢
   rw [hg] at hr1
   (try rw [hg])
   have HB1:=Lib.hid (HR.out.trans (hb1.mono HR.out.size))
   obtain⟨p0,p1,p2,p3,p4,p5⟩:=cells6 hr1
   have HR1:=Lib.hid hr1
   clear hw1 hb1 hr1 hg k0 k1 k2 k3 k4 k5 HX HTH HEH
   have hst:=st_app
   have HTS:Hid (T++[9]=tabs (n+1)):=Lib.hid (by rw [HTT.out];exact tabs_snoc n)
   obtain⟨V0,hV0⟩ : ∃ v,valF xs 0=v:=⟨_,rfl⟩
   obtain⟨V1,hV1⟩ : ∃ v,valF xs 1=v:=⟨_,rfl⟩
   obtain⟨TH,hTH⟩ : ∃ v,fmtS th (n+1)=v:=⟨_,rfl⟩
   obtain⟨EL,hEL⟩ : ∃ v,fmtS el (n+1)=v:=⟨_,rfl⟩
   have hv0:=HV0.out
   have hv1:=HV1.out
   have hth:=HTL.out
   have hel:=HEL.out
   rw [hV0] at hv0
   rw [hV1] at hv1
   rw [hTH] at hth
   rw [hEL] at hel
   have hbody:body1 k nm xs th el n=(if k=1 then [118,97,114,32]++(nm++([32,61,32]++(V0++[59])))
   else if k=2 then nm++([32,61,32]++(V0++[59]))
   else if k=3 then nm++([91]++(V0++([93,32,61,32]++(V1++[59]))))
   else if k=6 then [114,101,116,117,114,110,32]++(V0++[59])
   else if k=7 then [112,114,105,110,116,32]++(V0++[59])
   else if k=8 then [99,97,108,108,32]++(V0++[59])
   else if k=5 then [119,104,105,108,101,32]++(V0++([32,123,10]++(TH++(T++[125]))))
   else if k=4 then [105,102,32]++(V0++([32,123,10]++(TH++(T++([125] ++
    (if el.len=0 then [] else [32,101,108,115,101,32,123,10]++(EL++(T++[125]))))))))
   else []):=by unfold body1;rw [hV0,hV1,hTH,hEL,HTT.out]
   rw [hbody] at HPRE hbl
   have HVV0:=Lib.hid hV0
   have HVV1:=Lib.hid hV1
   have HVTH:=Lib.hid hTH
   have HVEL:=Lib.hid hEL
   clear hV0 hV1 hTH hEL hbody HV0 HV1 HTL HEL
   have hfin : ∀ (u:Bt) (wz:World),fmtS (S.pre (i+1)) n=u->Below w.heap.size w wz->(∃ i_1:Nat,i_1<=N/\(Value.string (st u))=.string (st (fmtS (S.pre i_1) n))/\(Value.int .i64 ((i:Int)+1))=.int .i64 i_1/\Hid (Below w.heap.size w wz)):=fun u wz hu hbz=>⟨i+1,by omega,by rw [hu],by go_num,Lib.hid hbz⟩
   have HFIN:=Lib.hid hfin
   clear hfin
   rcases hok with⟨hk,hnk,hxl,-,-⟩ | ⟨hk,hnk,hxl,-,-⟩ | ⟨hk,hnk,hxl⟩ | ⟨hk,hnk,hxl,-⟩ | ⟨hk,hnk,hxl,-,-⟩ | ⟨hk,hnk,-,-,hh,har,hxl,-⟩
   ·have HXL:=Lib.hid hxl
    clear hnk hxl
    rcases hk with hk | hk
    ·subst hk
     have HVAL0:Hid (∀ W,Below w1.heap.size w1 W->Calls Tryd.prog 30 #[stv 1 ln nm (.slice ax xs.len cx) (.slice at_ th.len ct) (.slice ae el.len ce),.int .i64 0] W fun e w'=>e=.returned (.string (st V0))/\Below W.heap.size W w'):=Lib.hid (fun W hW=>by
      have:=value_any 1 ln nm xs at_ ae th.len ct el.len ce 0 (by have:=HXL.out;omega) HXW.out HXC.out W ax cx (HX1.out.belowT hW)
      rw [HVV0.out] at this
      exact this)
     go_upto_region 9 with fail
     refine wp_region_below (by kernel_rfl) (by kernel_rfl) ?_
     have q0 : ∀ x:Since w1,x.val.cell? ⟨g,0,none⟩=some (.int .i64 1):=fun x=>x.cell p0
     have q1 : ∀ x:Since w1,x.val.cell? ⟨g,1,none⟩=some (.int .i64 ln):=fun x=>x.cell p1
     have q2 : ∀ x:Since w1,x.val.cell? ⟨g,2,none⟩=some (.string (st nm)):=fun x=>x.cell p2
     have q3 : ∀ x:Since w1,x.val.cell? ⟨g,3,none⟩=some (.slice ax xs.len cx):=fun x=>x.cell p3
     have q4 : ∀ x:Since w1,x.val.cell? ⟨g,4,none⟩=some (.slice at_ th.len ct):=fun x=>x.cell p4
     have q5 : ∀ x:Since w1,x.val.cell? ⟨g,5,none⟩=some (.slice ae el.len ce):=fun x=>x.cell p5
     repeat (go_big_quiet_step ((go_at_call 30;exact calls_since _ (HVAL0.out _ (Since.property _)))))
     refine wpQuiet_nil ?_
     intro w2 hb2
     clear q0 q1 q2 q3 q4 q5
     go_wp2_with fail
     go_roundw
     case rel=>exact HFIN.out _ _ (by rw [HPRE.out,HPP.out,<- HTT.out];simp [List.append_assoc]) (HB1.out.trans (hb2.mono HB1.out.size))
     case measure=>simp [intOf];omega
    ·subst hk
     have HVAL0:Hid (∀ W,Below w1.heap.size w1 W->Calls Tryd.prog 30 #[stv 2 ln nm (.slice ax xs.len cx) (.slice at_ th.len ct) (.slice ae el.len ce),.int .i64 0] W fun e w'=>e=.returned (.string (st V0))/\Below W.heap.size W w'):=Lib.hid (fun W hW=>by
      have:=value_any 2 ln nm xs at_ ae th.len ct el.len ce 0 (by have:=HXL.out;omega) HXW.out HXC.out W ax cx (HX1.out.belowT hW)
      rw [HVV0.out] at this
      exact this)
     go_upto_region 11 with fail
     refine wp_region_below (by kernel_rfl) (by kernel_rfl) ?_
     have q0 : ∀ x:Since w1,x.val.cell? ⟨g,0,none⟩=some (.int .i64 2):=fun x=>x.cell p0
     have q1 : ∀ x:Since w1,x.val.cell? ⟨g,1,none⟩=some (.int .i64 ln):=fun x=>x.cell p1
     have q2 : ∀ x:Since w1,x.val.cell? ⟨g,2,none⟩=some (.string (st nm)):=fun x=>x.cell p2
     have q3 : ∀ x:Since w1,x.val.cell? ⟨g,3,none⟩=some (.slice ax xs.len cx):=fun x=>x.cell p3
     have q4 : ∀ x:Since w1,x.val.cell? ⟨g,4,none⟩=some (.slice at_ th.len ct):=fun x=>x.cell p4
     have q5 : ∀ x:Since w1,x.val.cell? ⟨g,5,none⟩=some (.slice ae el.len ce):=fun x=>x.cell p5
     repeat (go_big_quiet_step ((go_at_call 30;exact calls_since _ (HVAL0.out _ (Since.property _)))))
     refine wpQuiet_nil ?_
     intro w2 hb2
     clear q0 q1 q2 q3 q4 q5
     go_wp2_with fail
     go_roundw
     case rel=>exact HFIN.out _ _ (by rw [HPRE.out,HPP.out,<- HTT.out];simp [List.append_assoc]) (HB1.out.trans (hb2.mono HB1.out.size))
     case measure=>simp [intOf];omega
   ·have HXL:=Lib.hid hxl
    clear hnk hxl
    subst hk
    have HVAL0:Hid (∀ W,Below w1.heap.size w1 W->Calls Tryd.prog 30 #[stv 3 ln nm (.slice ax xs.len cx) (.slice at_ th.len ct) (.slice ae el.len ce),.int .i64 0] W fun e w'=>e=.returned (.string (st V0))/\Below W.heap.size W w'):=Lib.hid (fun W hW=>by
     have:=value_any 3 ln nm xs at_ ae th.len ct el.len ce 0 (by have:=HXL.out;omega) HXW.out HXC.out W ax cx (HX1.out.belowT hW)
     rw [HVV0.out] at this
     exact this)
    have HVAL1:Hid (∀ W,Below w1.heap.size w1 W->Calls Tryd.prog 30 #[stv 3 ln nm (.slice ax xs.len cx) (.slice at_ th.len ct) (.slice ae el.len ce),.int .i64 1] W fun e w'=>e=.returned (.string (st V1))/\Below W.heap.size W w'):=Lib.hid (fun W hW=>by
     have:=value_any 3 ln nm xs at_ ae th.len ct el.len ce 1 (by have:=HXL.out;omega) HXW.out HXC.out W ax cx (HX1.out.belowT hW)
     rw [HVV1.out] at this
     exact this)
    go_upto_region 13 with fail
    refine wp_region_below (by kernel_rfl) (by kernel_rfl) ?_
    have q0 : ∀ x:Since w1,x.val.cell? ⟨g,0,none⟩=some (.int .i64 3):=fun x=>x.cell p0
    have q1 : ∀ x:Since w1,x.val.cell? ⟨g,1,none⟩=some (.int .i64 ln):=fun x=>x.cell p1
    have q2 : ∀ x:Since w1,x.val.cell? ⟨g,2,none⟩=some (.string (st nm)):=fun x=>x.cell p2
    have q3 : ∀ x:Since w1,x.val.cell? ⟨g,3,none⟩=some (.slice ax xs.len cx):=fun x=>x.cell p3
    have q4 : ∀ x:Since w1,x.val.cell? ⟨g,4,none⟩=some (.slice at_ th.len ct):=fun x=>x.cell p4
    have q5 : ∀ x:Since w1,x.val.cell? ⟨g,5,none⟩=some (.slice ae el.len ce):=fun x=>x.cell p5
    repeat (go_big_quiet_step ((first | (go_at_call 30;with_reducible exact calls_since _ (HVAL0.out _ (Since.property _))) | (go_at_call 30;exact calls_since _ (HVAL1.out _ (Since.property _))))))
    refine wpQuiet_nil ?_
    intro w2 hb2
    clear q0 q1 q2 q3 q4 q5
    go_wp2_with fail
    go_roundw
    case rel=>exact HFIN.out _ _ (by rw [HPRE.out,HPP.out,<- HTT.out];simp [List.append_assoc]) (HB1.out.trans (hb2.mono HB1.out.size))
    case measure=>simp [intOf];omega
   ·have HXL:=Lib.hid hxl
    clear hnk hxl
    subst hk
    have HVAL0:Hid (∀ W,Below w1.heap.size w1 W->Calls Tryd.prog 30 #[stv 4 ln nm (.slice ax xs.len cx) (.slice at_ th.len ct) (.slice ae el.len ce),.int .i64 0] W fun e w'=>e=.returned (.string (st V0))/\Below W.heap.size W w'):=Lib.hid (fun W hW=>by
     have:=value_any 4 ln nm xs at_ ae th.len ct el.len ce 0 (by have:=HXL.out;omega) HXW.out HXC.out W ax cx (HX1.out.belowT hW)
     rw [HVV0.out] at this
     exact this)
    have HCT:Hid (∀ W,Below w1.heap.size w1 W->Calls Tryd.prog 19 #[.slice at_ th.len ct,.string (st (T++[9]))] W fun e w'=>e=.returned (.string (st TH))/\Below W.heap.size W w'):=Lib.hid (fun W hW=>by
     have:=HBT.out.call HTS.out HTN.out W (HTH1.out.belowT hW)
     rw [HVTH.out] at this
     exact this)
    have HCE:Hid (∀ W,Below w1.heap.size w1 W->Calls Tryd.prog 19 #[.slice ae el.len ce,.string (st (T++[9]))] W fun e w'=>e=.returned (.string (st EL))/\Below W.heap.size W w'):=Lib.hid (fun W hW=>by
     have:=HBE.out.call HTS.out HEN.out W (HEH1.out.belowT hW)
     rw [HVEL.out] at this
     exact this)
    go_upto_region 23 with fail
    refine wp_region_below (by kernel_rfl) (by kernel_rfl) ?_
    have q0 : ∀ x:Since w1,x.val.cell? ⟨g,0,none⟩=some (.int .i64 4):=fun x=>x.cell p0
    have q1 : ∀ x:Since w1,x.val.cell? ⟨g,1,none⟩=some (.int .i64 ln):=fun x=>x.cell p1
    have q2 : ∀ x:Since w1,x.val.cell? ⟨g,2,none⟩=some (.string (st nm)):=fun x=>x.cell p2
    have q3 : ∀ x:Since w1,x.val.cell? ⟨g,3,none⟩=some (.slice ax xs.len cx):=fun x=>x.cell p3
    have q4 : ∀ x:Since w1,x.val.cell? ⟨g,4,none⟩=some (.slice at_ th.len ct):=fun x=>x.cell p4
    have q5 : ∀ x:Since w1,x.val.cell? ⟨g,5,none⟩=some (.slice ae el.len ce):=fun x=>x.cell p5
    repeat (go_big_quiet_step ((first | (go_at_call 30;exact calls_since _ (HVAL0.out _ (Since.property _))) | (go_at_call 19;exact calls_since _ (HCT.out _ (Since.property _))))))
    refine wpQuiet_nil ?_
    intro w2 hb2
    clear q0 q1 q2 q3 q4 q5
    have hp5:=(hb2.cell (p:=⟨g,5,none⟩) (heap_lt HR1.out)).trans p5
    have HB2:=Lib.hid (HB1.out.trans (hb2.mono HB1.out.size))
    have HBW2:=Lib.hid hb2
    clear p0 p1 p2 p3 p4 p5 hb2
    by_cases hz:el.len=0
    ·rw [if_neg (by decide),if_neg (by decide),if_neg (by decide),if_neg (by decide),if_neg (by decide),if_neg (by decide),if_neg (by decide),if_pos rfl,if_pos hz] at HPRE
     have hdz:decide ((0:Int)<(el.len:Int))=false:=by rw [decide_eq_false_iff_not];omega
     have hdz2:decide (0<el.len)=false:=by rw [decide_eq_false_iff_not];omega
     clear hz
     go_wp2_with fail
     go_roundw
     case rel=>exact HFIN.out _ _ (by rw [HPRE.out,HPP.out,<- HTT.out];simp [List.append_assoc]) HB2.out
     case measure=>simp [intOf];omega
    ·rw [if_neg (by decide),if_neg (by decide),if_neg (by decide),if_neg (by decide),if_neg (by decide),if_neg (by decide),if_neg (by decide),if_pos rfl,if_neg hz] at HPRE
     have hdz:decide ((0:Int)<(el.len:Int))=true:=by rw [decide_eq_true_iff];omega
     have hdz2:decide (0<el.len)=true:=by rw [decide_eq_true_iff];omega
     clear hz
     go_wp2_with fail
     refine(HCE.out _ HBW2.out).mono ?_
     rintro e w3 ⟨rfl,hb3⟩
     go_wp2_with fail
     go_roundw
     case rel=>exact HFIN.out _ _ (by rw [HPRE.out,HPP.out,<- HTT.out];simp [List.append_assoc]) (HB2.out.trans (hb3.mono HB2.out.size))
     case measure=>simp [intOf];omega
   ·have HXL:=Lib.hid hxl
    clear hnk hxl
    subst hk
    have HVAL0:Hid (∀ W,Below w1.heap.size w1 W->Calls Tryd.prog 30 #[stv 5 ln nm (.slice ax xs.len cx) (.slice at_ th.len ct) (.slice ae el.len ce),.int .i64 0] W fun e w'=>e=.returned (.string (st V0))/\Below W.heap.size W w'):=Lib.hid (fun W hW=>by
     have:=value_any 5 ln nm xs at_ ae th.len ct el.len ce 0 (by have:=HXL.out;omega) HXW.out HXC.out W ax cx (HX1.out.belowT hW)
     rw [HVV0.out] at this
     exact this)
    have HCT:Hid (∀ W,Below w1.heap.size w1 W->Calls Tryd.prog 19 #[.slice at_ th.len ct,.string (st (T++[9]))] W fun e w'=>e=.returned (.string (st TH))/\Below W.heap.size W w'):=Lib.hid (fun W hW=>by
     have:=HBT.out.call HTS.out HTN.out W (HTH1.out.belowT hW)
     rw [HVTH.out] at this
     exact this)
    go_upto_region 21 with fail
    refine wp_region_below (by kernel_rfl) (by kernel_rfl) ?_
    have q0 : ∀ x:Since w1,x.val.cell? ⟨g,0,none⟩=some (.int .i64 5):=fun x=>x.cell p0
    have q1 : ∀ x:Since w1,x.val.cell? ⟨g,1,none⟩=some (.int .i64 ln):=fun x=>x.cell p1
    have q2 : ∀ x:Since w1,x.val.cell? ⟨g,2,none⟩=some (.string (st nm)):=fun x=>x.cell p2
    have q3 : ∀ x:Since w1,x.val.cell? ⟨g,3,none⟩=some (.slice ax xs.len cx):=fun x=>x.cell p3
    have q4 : ∀ x:Since w1,x.val.cell? ⟨g,4,none⟩=some (.slice at_ th.len ct):=fun x=>x.cell p4
    have q5 : ∀ x:Since w1,x.val.cell? ⟨g,5,none⟩=some (.slice ae el.len ce):=fun x=>x.cell p5
    repeat (go_big_quiet_step ((first | (go_at_call 30;exact calls_since _ (HVAL0.out _ (Since.property _))) | (go_at_call 19;exact calls_since _ (HCT.out _ (Since.property _))))))
    refine wpQuiet_nil ?_
    intro w2 hb2
    clear q0 q1 q2 q3 q4 q5
    go_wp2_with fail
    go_roundw
    case rel=>exact HFIN.out _ _ (by rw [HPRE.out,HPP.out,<- HTT.out];simp [List.append_assoc]) (HB1.out.trans (hb2.mono HB1.out.size))
    case measure=>simp [intOf];omega
   ·have HXL:=Lib.hid hxl
    clear hnk hxl
    rcases hk with hk | hk
    ·subst hk
     have HVAL0:Hid (∀ W,Below w1.heap.size w1 W->Calls Tryd.prog 30 #[stv 6 ln nm (.slice ax xs.len cx) (.slice at_ th.len ct) (.slice ae el.len ce),.int .i64 0] W fun e w'=>e=.returned (.string (st V0))/\Below W.heap.size W w'):=Lib.hid (fun W hW=>by
      have:=value_any 6 ln nm xs at_ ae th.len ct el.len ce 0 (by have:=HXL.out;omega) HXW.out HXC.out W ax cx (HX1.out.belowT hW)
      rw [HVV0.out] at this
      exact this)
     go_wp2_with fail
     refine(HVAL0.out _ (Below.refl _ _)).mono ?_
     rintro e w2 ⟨rfl,hb2⟩
     go_wp2_with fail
     go_roundw
     case rel=>exact HFIN.out _ _ (by rw [HPRE.out,HPP.out,<- HTT.out];simp [List.append_assoc]) (HB1.out.trans (hb2.mono HB1.out.size))
     case measure=>simp [intOf];omega
    ·subst hk
     have HVAL0:Hid (∀ W,Below w1.heap.size w1 W->Calls Tryd.prog 30 #[stv 7 ln nm (.slice ax xs.len cx) (.slice at_ th.len ct) (.slice ae el.len ce),.int .i64 0] W fun e w'=>e=.returned (.string (st V0))/\Below W.heap.size W w'):=Lib.hid (fun W hW=>by
      have:=value_any 7 ln nm xs at_ ae th.len ct el.len ce 0 (by have:=HXL.out;omega) HXW.out HXC.out W ax cx (HX1.out.belowT hW)
      rw [HVV0.out] at this
      exact this)
     go_wp2_with fail
     refine(HVAL0.out _ (Below.refl _ _)).mono ?_
     rintro e w2 ⟨rfl,hb2⟩
     go_wp2_with fail
     go_roundw
     case rel=>exact HFIN.out _ _ (by rw [HPRE.out,HPP.out,<- HTT.out];simp [List.append_assoc]) (HB1.out.trans (hb2.mono HB1.out.size))
     case measure=>simp [intOf];omega
   ·have hxl1:xs.len=1:=by rw [hxl];rfl
    have HXL:=Lib.hid hxl1
    clear hnk hxl hxl1
    subst hk
    have HVAL0:Hid (∀ W,Below w1.heap.size w1 W->Calls Tryd.prog 30 #[stv 8 ln nm (.slice ax xs.len cx) (.slice at_ th.len ct) (.slice ae el.len ce),.int .i64 0] W fun e w'=>e=.returned (.string (st V0))/\Below W.heap.size W w'):=Lib.hid (fun W hW=>by
     have:=value_any 8 ln nm xs at_ ae th.len ct el.len ce 0 (by have:=HXL.out;omega) HXW.out HXC.out W ax cx (HX1.out.belowT hW)
     rw [HVV0.out] at this
     exact this)
    go_wp2_with fail
    refine(HVAL0.out _ (Below.refl _ _)).mono ?_
    rintro e w2 ⟨rfl,hb2⟩
    go_wp2_with fail
    go_roundw
    case rel=>exact HFIN.out _ _ (by rw [HPRE.out,HPP.out,<- HTT.out];simp [List.append_assoc]) (HB1.out.trans (hb2.mono HB1.out.size))
    case measure=>simp [intOf];omega
  ·obtain rfl:i=N:=by omega
   have HE:Hid (fmtS (S.pre i) n=fmtS S n):=Lib.hid (by rw [<- HNN.out,Sf.pre_all])
   obtain⟨P,hP⟩ : ∃ P,fmtS (S.pre i) n=P:=⟨_,rfl⟩
   rw [hP] at hpl HE ⊢
   have hst:=st_app
   go_wp2_with fail
   refine bodyPost_ret (v:=.string (st P)) (by simp [results,Tryd.results19,go_sem]) rfl ?_
   exact⟨by rw [HE.out],HR.out⟩
theorem BOK_all (S:Sf) (hw:S.wf) (hc:S.cst<=1000000):BOK S /\ ∀ j x,S.get j=some x->BOK x.th/\BOK x.el:=by
 induction S with
 | nil=>exact⟨blk_one _ hw hc (fun j x hx=>by cases hx),fun j x hx=>by cases hx⟩
 | cons k ln nm xs th el r ih1 ih2 ih3 =>
  have hcs:150+xs.cst+th.cst+el.cst+r.cst<=1000000:=hc
  have h1:=ih1 hw.2.2.2.1 (by omega)
  have h2:=ih2 hw.2.2.2.2.1 (by omega)
  have h3:=ih3 hw.2.2.2.2.2 (by omega)
  have hall : ∀ j x,(Sf.cons k ln nm xs th el r).get j=some x->BOK x.th/\BOK x.el:=by
   intro j x hx
   cases j with
   | zero=>injection hx with hx;subst hx;exact⟨h1.1,h2.1⟩
   | succ j=>exact h3.2 j x hx
  exact⟨blk_one _ hw hc hall,hall⟩
end Go.Proofs.YtpcdinelpfbpfaaDoor
namespace Go.Proofs.YtpcdinelpfbpfaaDoor
open Go.ChangeShapes Go.WideShapes Go.ChangeAt Go.RowKit
set_option linter.unusedVariables false
set_option linter.unusedSimpArgs false

structure SrcIn (w:World) (gs:List (Bt×Int)) (fs:List Fr) (Fs:List Fn) (aa:Option Addr) (ca:Nat) (ab:Option Addr) (cb:Nat):Prop where
 gcap:gs.length<=ca/\ca<=maxLen
 fcap:fs.length<=cb/\cb<=maxLen
 gat:SlAt w (fun _=>True) aa (glc gs)
 fat:SlAt w (fun _=>True) ab (frc fs)
 fns:FnsAt w (fun _=>True) fs Fs
 gok : ∀ x∈gs,okN x.1/\0<=x.2/\x.2<=5
 gn:gs.length<=4
 fok : ∀ f∈fs,okN f.nm/\f.pn<=2
 f1:1<=fs.length
 f4:fs.length<=4
theorem SrcIn.below {w w':World} {gs:List (Bt×Int)} {fs:List Fr} {Fs:List Fn} {aa ab:Option Addr} {ca cb:Nat} (h:SrcIn w gs fs Fs aa ca ab cb) (hb:Below w.heap.size w w'):SrcIn w' gs fs Fs aa ca ab cb :=
 {h with
  gat:=h.gat.keep (fun b _ hlt=>⟨hb.block b hlt,trivial⟩) hb.size
  fat:=h.fat.keep (fun b _ hlt=>⟨hb.block b hlt,trivial⟩) hb.size
  fns:=h.fns.keep (fun b _ hlt=>⟨hb.block b hlt,trivial⟩) hb.size }
theorem SrcIn.of_post {gc:Nat} {w w':World} {e:Ending} (h:SrcPost gc w e w') :
  ∃ (gs:List (Bt×Int)) (fs:List Fr) (Fs:List Fn) (aa:Option Addr) (ca:Nat) (ab:Option Addr) (cb:Nat),e=.returned (.agg #[.slice aa gs.length ca,.slice ab fs.length cb])/\Cod w' gc/\w.grownBy w' (some gc)/\SrcIn w' gs fs Fs aa ca ab cb:=by
 obtain⟨M,Fs,rfl,h1,h2,h3,h4,h5,h6,h7,h8,h9,h10⟩:=h
 obtain⟨aa,ca,e1,_,c1,c2,c3,_⟩:=Cells.of_own h3
 obtain⟨ab,cb,e2,_,d1,d2,d3,_⟩:=Cells.of_own h4
 refine⟨M.gs,M.fs,Fs,aa,ca,ab,cb,by rw [e1,e2],h1,h2,⟨c1,c2⟩,⟨d1,d2⟩,?_,?_,h5.keep (fun b _ _=>⟨rfl,trivial⟩) (Nat.le_refl _),h6,h7,h8,h9,h10⟩
 ·intro hx;obtain⟨b,off,e,hb,hc⟩:=c3 hx;exact⟨b,off,e,trivial,hb,hc⟩
 ·intro hx;obtain⟨b,off,e,hb,hc⟩:=d3 hx;exact⟨b,off,e,trivial,hb,hc⟩
theorem strs_at (ls:List Bt) (j:Nat) (p:Bt) (h:ls[j]?=some p):(strs ls)[j]?=some (.string (st p)):=by simp [h]
theorem commL_take (l:List Bt) (i:Nat) (x:Bt) (h:l[i]?=some x):comm (l.take (i+1))=if i=0 then x else comm (l.take i)++([44,32]++x):=by
 have hi:=(List.getElem?_eq_some_iff.1 h).1
 have e:l.take (i+1)=l.take i++[x]:=by
  rw [List.take_add_one,h];rfl
 rw [e,comm_snoc]
 by_cases h0:i=0
 ·subst h0;simp
 ·rw [if_neg h0,if_neg (by
   intro e2
   have h3:(l.take i).length=i:=by rw [List.length_take];omega
   rw [e2] at h3
   exact h0 h3.symm)]
theorem commL_len (l:List Bt) (h : ∀ x∈l,x.length<=4):(comm l).length<=6 * l.length:=by
 induction l with
 | nil=>simp [comm]
 | cons a r ih =>
  have h1:=h a (by simp)
  have h2:=ih (fun x hx=>h x (by simp [hx]))
  cases r with
  | nil=>simp [comm];omega
  | cons b r =>
   show (a++(([44,32]:Bt)++comm (b::r))).length<=6 * ((b::r).length+1)
   rw [List.length_append,List.length_append]
   simp only [List.length_cons,List.length_nil] at h2 ⊢
   omega
theorem dec_small (n:Int) (h0:0<=n) (h1:n<=5):(Lib.decDigits n.toNat).length<=19:=dec_len19 (by omega)
theorem fmtG_len (x:Bt×Int) (h:okN x.1/\0<=x.2/\x.2<=5):(fmtG x).length<=40:=by
 have h1:=h.1.len
 have h2:=dec_small x.2 h.2.1 h.2.2
 unfold fmtG
 split
 ·simp only [List.length_append,List.length_cons,List.length_nil];omega
 ·simp only [List.length_append,List.length_cons,List.length_nil];omega
theorem flat_len {α:Type} (f:α->Bt) (c:Nat) (l:List α) (h : ∀ x∈l,(f x).length<=c):(l.flatMap f).length<=l.length * c:=by
 induction l with
 | nil=>simp
 | cons a r ih =>
  rw [List.flatMap_cons,List.length_append,List.length_cons,Nat.add_mul]
  have:=h a (by simp)
  have:=ih (fun x hx=>h x (by simp [hx]))
  omega
theorem take_flat {α:Type} (f:α->Bt) (l:List α) (i:Nat) (x:α) (h:l[i]?=some x):(l.take (i+1)).flatMap f=(l.take i).flatMap f++f x:=by
 rw [List.take_add_one,h]
 simp
theorem fmtF_len {w:World} {P:Nat->Prop} {f:Fr} {F:Fn} (h:FnAt w P f F) (hn:okN f.nm/\f.pn<=2):(fmtF F).length<=9200/\F.bd.nst+1<=10/\F.nm.length<=4/\F.ps.length<=2 /\ ∀ p∈F.ps,p.length<=4:=by
 obtain⟨h1,h2,_,_,_,_,h7,_,h9,h10,h11,_⟩:=h
 have hp : ∀ p∈F.ps,p.length<=4:=fun p hp=>(h7 p hp).len
 have hl:=fmtS_len F.bd h9 1 (by omega)
 have hc:=commL_len F.ps hp
 have hnm:=hn.1.len
 rw [h1] at hnm
 have hps:F.ps.length<=2:=by have:=hn.2;omega
 refine⟨?_,by omega,hnm,hps,hp⟩
 unfold fmtF
 simp only [List.length_append,List.length_cons,List.length_nil]
 omega
theorem FnsAt.get2 {w:World} {P:Nat->Prop} {fs:List Fr} {Fs:List Fn} (h:FnsAt w P fs Fs) {j:Nat} {F:Fn} (hj:Fs[j]?=some F) : ∃ f,fs[j]?=some f/\FnAt w P f F:=by
 have hl:=h.len
 have hlt:=(List.getElem?_eq_some_iff.1 hj).1
 obtain⟨F',e,hF⟩:=h.get (f:=fs[j]'(by omega)) (List.getElem?_eq_getElem (by omega))
 rw [hj] at e
 injection e with e
 subst e
 exact⟨_,List.getElem?_eq_getElem (by omega),hF⟩
theorem SrcIn.fmtF_le {w:World} {gs:List (Bt×Int)} {fs:List Fr} {Fs:List Fn} {aa ab:Option Addr} {ca cb:Nat} (h:SrcIn w gs fs Fs aa ca ab cb) : ∀ F∈Fs,(fmtF F).length<=9200:=by
 intro F hF
 obtain⟨j,hj,e⟩:=List.mem_iff_getElem.1 hF
 obtain⟨f,hf,hFn⟩:=h.fns.get2 (j:=j) (F:=F) (by rw [List.getElem?_eq_getElem hj,e])
 exact(fmtF_len hFn (h.fok f (List.mem_of_getElem? hf))).1
theorem SrcIn.len {w:World} {gs:List (Bt×Int)} {fs:List Fr} {Fs:List Fn} {aa ab:Option Addr} {ca cb:Nat} (h:SrcIn w gs fs Fs aa ca ab cb):(fmtP gs Fs).length<=37000:=by
 have h1:=flat_len fmtG 40 gs (fun x hx=>fmtG_len x (h.gok x hx))
 have h2:=flat_len fmtF 9200 Fs h.fmtF_le
 have h3:=h.fns.len
 have h4:=h.gn
 have h5:=h.f4
 have h6:gs.length * 40<=4 * 40:=Nat.mul_le_mul_right _ h4
 have h7:Fs.length * 9200<=4 * 9200:=Nat.mul_le_mul_right _ (by omega)
 unfold fmtP
 rw [List.length_append]
 omega
theorem tkG_len {w:World} {gs:List (Bt×Int)} {fs:List Fr} {Fs:List Fn} {aa ab:Option Addr} {ca cb:Nat} (h:SrcIn w gs fs Fs aa ca ab cb) (i:Nat):((gs.take i).flatMap fmtG).length<=160:=by
 have h1:=flat_len fmtG 40 (gs.take i) (fun x hx=>fmtG_len x (h.gok x (List.mem_of_mem_take hx)))
 have h2:(gs.take i).length<=4:=by rw [List.length_take];have:=h.gn;omega
 have h3:(gs.take i).length * 40<=4 * 40:=Nat.mul_le_mul_right _ h2
 omega
theorem tkF_len {w:World} {gs:List (Bt×Int)} {fs:List Fr} {Fs:List Fn} {aa ab:Option Addr} {ca cb:Nat} (h:SrcIn w gs fs Fs aa ca ab cb) (i:Nat):((Fs.take i).flatMap fmtF).length<=36800:=by
 have h1:=flat_len fmtF 9200 (Fs.take i) (fun x hx=>h.fmtF_le x (List.mem_of_mem_take hx))
 have h2:(Fs.take i).length<=4:=by rw [List.length_take];have:=h.f4;have:=h.fns.len;omega
 have h3:(Fs.take i).length * 9200<=4 * 9200:=Nat.mul_le_mul_right _ h2
 omega
set_option maxRecDepth 100000 in
set_option maxHeartbeats 40000000 in
theorem Format_any (w:World) (gs:List (Bt×Int)) (fs:List Fr) (Fs:List Fn) (aa ab:Option Addr) (ca cb:Nat) (h:SrcIn w gs fs Fs aa ca ab cb) :
  Calls Tryd.prog 11 #[.agg #[.slice aa gs.length ca,.slice ab fs.length cb]] w fun e w'=>e=.returned (.string (st (fmtP gs Fs)))/\Below w.heap.size w w':=by
 have hb0:=below_alloc w (.cells #[.slice aa gs.length ca,.slice ab fs.length cb] 32)
 have hr0:=heap_alloc_new w (.cells #[.slice aa gs.length ca,.slice ab fs.length cb] 32)
 have H1:=Lib.hid (h.below hb0)
 have hgn:=h.gn
 have hfn:=h.f4
 have hgc:=h.gcap
 have hfc:=h.fcap
 obtain⟨NG,hNG⟩ : ∃ N,gs.length=N:=⟨_,rfl⟩
 obtain⟨NF,hNF⟩ : ∃ N,fs.length=N:=⟨_,rfl⟩
 rw [hNG] at hgn hgc hb0 hr0 H1 ⊢
 rw [hNF] at hfn hfc hb0 hr0 H1 ⊢
 have HNG:=Lib.hid hNG
 have HNF:=Lib.hid hNF
 have HFL:Hid (Fs.length=NF):=Lib.hid (by rw [<- h.fns.len,hNF])
 clear hNG hNF h
 go_enter Tryd.func11,Tryd.ntmps11
 go_upto_region 1 with fail
 obtain⟨w1,hw1⟩ : ∃ W,w.alloc (.cells #[.slice aa NG ca,.slice ab NF cb] 32)=W:=⟨_,rfl⟩
 obtain⟨g,hg⟩ : ∃ x,w.heap.size=x:=⟨_,rfl⟩
 rw [hw1] at hb0 hr0 H1 ⊢
 rw [hg] at hr0
 (try rw [hg])
 have HB1:=Lib.hid hb0
 have HR1:=Lib.hid hr0
 have hlt1:=heap_lt hr0
 have HL1:=Lib.hid hlt1
 have HSZ:=Lib.hid hg
 clear hw1 hb0 hr0 hlt1 hg
 go_upto_block 0 with fail
 go_wp2_with fail
 go_loopw [3,4] (fun v3 v4 wr => ∃ i:Nat,i<=NG/\v3=.string (st ((gs.take i).flatMap fmtG))/\v4=.int .i64 i/\Hid (Below w1.heap.size w1 wr)) (fun _ v4 _=>NG - (intOf v4).toNat)
 case atStart=>exact⟨0,by omega,rfl,rfl,Lib.hid (Below.refl _ _)⟩
 case round =>
  rename World=>wa
  obtain⟨i,hi,rfl,rfl,HR⟩:=hrel
  have hrw:=(HR.out.block g HL1.out).trans HR1.out
  have c0:=cell_of_row _ g 0 _ _ _ hrw
  have c1:=cell_of_row _ g 1 _ _ _ hrw
  have hPl:=tkG_len H1.out i
  by_cases hlt:i<NG
  ·have hlt':i<gs.length:=by rw [HNG.out];exact hlt
   obtain⟨x,hx⟩ : ∃ x,gs[i]?=some x:=⟨_,List.getElem?_eq_getElem hlt'⟩
   have hok:=H1.out.gok x (List.mem_of_getElem? hx)
   have HT:=Lib.hid (take_flat fmtG gs i x hx)
   obtain⟨e1,e2⟩:=glc_get gs i x hx
   obtain⟨b,off,rfl,_,hbb,hcell⟩:=H1.out.gat (fun e=>by rw [e] at e1;simp at e1)
   have k0:wa.cell? ⟨b,off+i * 2,none⟩=some (.string (st x.1)):=(HR.out.cell (p:=⟨b,off+i * 2,none⟩) hbb).trans (hcell _ _ e1)
   have k1:wa.cell? ⟨b,off+i * 2+1,none⟩=some (.int .i64 x.2):=by rw [Nat.add_assoc];exact(HR.out.cell (p:=⟨b,off+(i * 2+1),none⟩) hbb).trans (hcell _ _ e2)
   have hxl:=hok.1.len
   obtain⟨z,hz⟩ : ∃ z:Nat,x.2=z:=Int.eq_ofNat_of_zero_le hok.2.1
   have hz5:z<=5:=by have:=hok.2.2;omega
   rw [hz] at k1
   have hdl:=dec_len19 (n:=z) (by omega)
   have HG1:Hid (fmtG x=[103,108,111,98,97,108,32]++(x.1++((if 0<z then [91]++(Lib.decDigits z++[93]) else [])++[59,10]))):=Lib.hid (by unfold fmtG;rw [hz];by_cases h0:0<z <;> simp [h0])
   obtain⟨P,hP⟩ : ∃ P,(gs.take i).flatMap fmtG=P:=⟨_,rfl⟩
   rw [hP] at hPl ⊢
   have HP:=Lib.hid hP
   obtain⟨nm,hnm⟩ : ∃ nm,x.1=nm:=⟨_,rfl⟩
   rw [hnm] at k0 hxl HG1
   clear hx hok e1 e2 hcell hrw hP hnm hz hlt'
   have hst:=st_app
   by_cases hz0:0<z
   ·have d0:decide ((0:Int)<(z:Int))=true:=by rw [decide_eq_true_iff];omega
    have d1:decide (0<z)=true:=by rw [decide_eq_true_iff];omega
    have hGG:=HG1.out
    rw [if_pos hz0] at hGG
    have HG2:=Lib.hid hGG
    clear hGG
    go_wp2_with fail
    refine(Number_any z (by omega) _).mono ?_
    rintro e w2 ⟨rfl,hb2⟩
    obtain⟨D,hD⟩ : ∃ D,Lib.decDigits z=D:=⟨_,rfl⟩
    rw [hD] at hdl HG2 ⊢
    go_wp2_with fail
    go_roundw
    case rel=>exact⟨i+1,by omega,(by rw [HT.out,HP.out,HG2.out];simp [List.append_assoc]),by go_num,Lib.hid (HR.out.trans (hb2.mono HR.out.size))⟩
    case measure=>simp [intOf];omega
   ·have d0:decide ((0:Int)<(z:Int))=false:=by rw [decide_eq_false_iff_not];omega
    have d1:decide (0<z)=false:=by rw [decide_eq_false_iff_not];omega
    have hGG:=HG1.out
    rw [if_neg hz0] at hGG
    have HG2:=Lib.hid hGG
    clear hGG
    go_wp2_with fail
    go_roundw
    case rel=>exact⟨i+1,by omega,(by rw [HT.out,HP.out,HG2.out];simp [List.append_assoc]),by go_num,HR⟩
    case measure=>simp [intOf];omega
  ·obtain rfl:i=NG:=by omega
   have HGE:Hid (gs.take i=gs):=Lib.hid (by rw [<- HNG.out,List.take_length])
   obtain⟨P,hP⟩ : ∃ P,(gs.take i).flatMap fmtG=P:=⟨_,rfl⟩
   have HP:Hid (gs.flatMap fmtG=P):=Lib.hid (by rw [<- hP,HGE.out])
   rw [hP] at hPl ⊢
   clear hP hrw
   have HC0:=Lib.hid c0
   have HC1:=Lib.hid c1
   go_upto_block 2 with fail
   go_wp2_with fail
   go_loopw [3,5] (fun v3 v5 ws => ∃ j:Nat,j<=NF/\v3=.string (st (P++(Fs.take j).flatMap fmtF))/\v5=.int .i64 j/\Hid (Below wa.heap.size wa ws)) (fun _ v5 _=>NF - (intOf v5).toNat)
   case atStart=>exact⟨0,by omega,(by simp),rfl,Lib.hid (Below.refl _ _)⟩
   case round =>
    rename World=>ws
    obtain⟨j,hj,rfl,rfl,HS⟩:=hrel
    have HBS:=Lib.hid (HR.out.trans (HS.out.mono HR.out.size))
    have hrw:=(HBS.out.block g HL1.out).trans HR1.out
    clear c0 c1
    have c0:=cell_of_row _ g 0 _ _ _ hrw
    have c1:=cell_of_row _ g 1 _ _ _ hrw
    have hQl:=tkF_len H1.out j
    by_cases hlt:j<NF
    ·obtain⟨F,hF⟩ : ∃ F,Fs[j]?=some F:=⟨_,List.getElem?_eq_getElem (by rw [HFL.out];exact hlt)⟩
     obtain⟨f,hf,hFn⟩:=H1.out.fns.get2 hF
     have hfk:=H1.out.fok f (List.mem_of_getElem? hf)
     obtain⟨hl1,hl2,hl3,hl4,hl5⟩:=fmtF_len hFn hfk
     have HT:=Lib.hid (take_flat fmtF Fs j F hF)
     obtain⟨e0,e1,e2,e3⟩:=frc_get fs j f hf
     obtain⟨b,off,rfl,_,hbb,hcell⟩:=H1.out.fat (fun e=>by rw [e] at e1;simp at e1)
     have kk : ∀ q u,(frc fs)[j * 4+q]?=some u->ws.cell? ⟨b,off+(j * 4+q),none⟩=some u:=fun q u hq=>(HBS.out.cell (p:=⟨b,off+(j * 4+q),none⟩) hbb).trans (hcell _ _ hq)
     obtain⟨fnm,fpa,fpn,fpc,fba,fbn,fbc⟩:=f
     obtain⟨n1,n2,n3,n4,n5,n6,n7,n8,n9,n10,n11,n12⟩:=hFn
     dsimp only at n1 n2 n3 n4 n5 n6 n7 n8 e0 e1 e2 e3
     subst n1
     subst n2
     obtain⟨sa,sc,srw,se,s1,s2,s3,s4,s5⟩:=id n8
     injection se with se1 se2 se3
     subst se1 se2 se3
     obtain⟨fnm,fps,fbd⟩:=F
     dsimp only at *
     have k0:ws.cell? ⟨b,off+j * 4,none⟩=some (.string (st fnm)):=kk 0 _ e0
     have k1:ws.cell? ⟨b,off+j * 4+1,none⟩=some (.int .i64 0):=by rw [Nat.add_assoc];exact kk 1 _ e1
     have k2:ws.cell? ⟨b,off+j * 4+2,none⟩=some (.slice fpa fps.length fpc):=by rw [Nat.add_assoc];exact kk 2 _ e2
     have k3:ws.cell? ⟨b,off+j * 4+3,none⟩=some (.slice fba fbd.len fbc):=by rw [Nat.add_assoc];exact kk 3 _ e3
     have HBD:=Lib.hid ((BOK_all fbd n9 (by omega)).1)
     have hbdl:=fmtS_len fbd n9 1 (by omega)
     have HNS:Hid (fbd.nst+1<=10):=Lib.hid hl2
     have hb2:=below_alloc ws (.cells #[.string (st fnm),.int .i64 0,.slice fpa fps.length fpc,.slice fba fbd.len fbc] 66)
     have hr2:=heap_alloc_new ws (.cells #[.string (st fnm),.int .i64 0,.slice fpa fps.length fpc,.slice fba fbd.len fbc] 66)
     have HST:=Lib.hid ((n8.belowT HBS.out).belowT hb2)
     have HPS:=Lib.hid ((n6.keep (Q:=fun _=>True) (fun b _ hlt=>⟨HBS.out.block b hlt,trivial⟩) HBS.out.size).keep (Q:=fun _=>True) (fun b _ hlt=>⟨hb2.block b hlt,trivial⟩) hb2.size)
     obtain⟨Q,hQ⟩ : ∃ Q,(Fs.take j).flatMap fmtF=Q:=⟨_,rfl⟩
     rw [hQ] at hQl ⊢
     have HQ:=Lib.hid hQ
     have HL5:=Lib.hid hl5
     have hbc:fbd.cst<=9100:=n10
     obtain⟨np,hnp⟩ : ∃ np,fps.length=np:=⟨_,rfl⟩
     rw [hnp] at k2 n3 hl4 hb2 hr2 HST HPS
     have HNP:=Lib.hid hnp
     have hnp4:np<=fpc/\fpc<=maxLen:=⟨n3,n4⟩
     clear e0 e1 e2 e3 kk hcell hF hf hfk hl1 hl2 hl5 n3 n4 n5 n6 n7 n8 n9 n10 n11 n12 s1 s2 s3 s4 s5 hQ hrw hnp
     have hst:=st_app
     go_upto_region 13 with fail
     obtain⟨w2,hw2⟩ : ∃ W,ws.alloc (.cells #[.string (st fnm),.int .i64 0,.slice fpa np fpc,.slice fba fbd.len fbc] 66)=W:=⟨_,rfl⟩
     obtain⟨g2,hg2⟩ : ∃ x,ws.heap.size=x:=⟨_,rfl⟩
     rw [hw2] at hb2 hr2 HST HPS ⊢
     rw [hg2] at hr2
     (try rw [hg2])
     have HB2:=Lib.hid (HS.out.trans (hb2.mono HS.out.size))
     have HR2:=Lib.hid hr2
     have q0:=cell_of_row _ g2 0 _ _ _ hr2
     have HL2:=Lib.hid (heap_lt hr2)
     clear hw2 hg2 hb2 hr2 c0 c1 k0 k1 k2 k3
     go_upto_block 4 with fail
     go_wp2_with fail
     have dlt:decide ((j:Int)<(NF:Int))=true:=by rw [decide_eq_true_iff];omega
     go_loopw [3,7] (fun v3 v7 wt => ∃ k:Nat,k<=np/\v3=.string (st (P++(Q++([102,117,110,99,32]++(fnm++([40]++comm (fps.take k)))))))/\v7=.int .i64 k/\Hid (Below w2.heap.size w2 wt)) (fun _ v7 _=>np - (intOf v7).toNat)
     case atStart=>exact⟨0,by omega,(by simp [comm,List.append_assoc]),rfl,Lib.hid (Below.refl _ _)⟩
     case round =>
      rename World=>wt
      obtain⟨k,hk,rfl,rfl,HT2⟩:=hrel
      have hr3:=(HT2.out.block g2 HL2.out).trans HR2.out
      clear q0
      have q0:=cell_of_row _ g2 0 _ _ _ hr3
      have q2:=cell_of_row _ g2 2 _ _ _ hr3
      have q3:=cell_of_row _ g2 3 _ _ _ hr3
      have hcl:(comm (fps.take k)).length<=12:=by
       have h1:=commL_len (fps.take k) (fun p hp=>HL5.out p (List.mem_of_mem_take hp))
       have h2:(fps.take k).length<=2:=by rw [List.length_take,HNP.out];omega
       omega
      clear hr3
      by_cases hltk:k<np
      ·obtain⟨p,hp⟩ : ∃ p,fps[k]?=some p:=⟨_,List.getElem?_eq_getElem (by rw [HNP.out];exact hltk)⟩
       have hpl:=HL5.out p (List.mem_of_getElem? hp)
       have HCT:=Lib.hid (commL_take fps k p hp)
       have hgs:=strs_at fps k p hp
       obtain⟨b2,off2,rfl,_,hb2b,hcell2⟩:=HPS.out (fun e=>by rw [e] at hgs;simp at hgs)
       have k0:wt.cell? ⟨b2,off2+k,none⟩=some (.string (st p)):=(HT2.out.cell (p:=⟨b2,off2+k,none⟩) hb2b).trans (hcell2 _ _ hgs)
       obtain⟨C,hC⟩ : ∃ C,comm (fps.take k)=C:=⟨_,rfl⟩
       rw [hC] at hcl ⊢
       have HC:=Lib.hid hC
       clear hp hgs hcell2 hC
       by_cases hk0:k=0
       ·subst hk0
        have HCC:Hid (comm (fps.take 1)=p/\C=[]):=Lib.hid ⟨by have:=HCT.out;rw [if_pos rfl] at this;exact this,by rw [<- HC.out];rfl⟩
        rw [Nat.add_zero] at k0
        go_wp2_with fail
        go_roundw
        case rel=>exact⟨1,by omega,(by rw [HCC.out.1,HCC.out.2];simp [List.append_assoc]),by go_num,HT2⟩
        case measure=>simp [intOf];omega
       ·have hip:decide ((0:Int)<(k:Int))=true:=by rw [decide_eq_true_iff];omega
        have hip2:decide (0<k)=true:=by rw [decide_eq_true_iff];omega
        have hip3:0<k:=by omega
        have HCC:Hid (comm (fps.take (k+1))=C++([44,32]++p)):=Lib.hid (by have:=HCT.out;rw [if_neg hk0,HC.out] at this;exact this)
        clear hk0
        go_wp2_with fail
        go_roundw
        case rel=>exact⟨k+1,by omega,(by rw [HCC.out];simp [List.append_assoc]),by go_num,HT2⟩
        case measure=>simp [intOf];omega
      ·obtain rfl:k=np:=by omega
       have HFE:Hid (fps.take k=fps):=Lib.hid (by rw [<- HNP.out,List.take_length])
       obtain⟨C,hC⟩ : ∃ C,comm (fps.take k)=C:=⟨_,rfl⟩
       rw [hC] at hcl ⊢
       have HC:Hid (comm fps=C):=Lib.hid (by rw [<- hC,HFE.out])
       clear hC
       go_wp2_with fail
       refine(HBD.out.call (n:=1) (t:=[9]) rfl HNS.out _ (HST.out.belowT HT2.out)).mono ?_
       rintro e w4 ⟨rfl,hb4⟩
       have HB4:=Lib.hid (HB2.out.trans ((HT2.out.mono HB2.out.size).trans (hb4.mono (Nat.le_trans HB2.out.size HT2.out.size))))
       obtain⟨B,hB⟩ : ∃ B,fmtS fbd 1=B:=⟨_,rfl⟩
       rw [hB] at hbdl ⊢
       have HBB:=Lib.hid hB
       clear hB hb4
       go_wp2_with fail
       go_roundw
       case rel=>exact⟨j+1,by omega,(by rw [HT.out,HQ.out];unfold fmtF;rw [HC.out,HBB.out];simp [List.append_assoc]),by go_num,HB4⟩
       case measure=>simp [intOf];omega
    ·obtain rfl:j=NF:=by omega
     have HFE:Hid (Fs.take j=Fs):=Lib.hid (by rw [<- HFL.out,List.take_length])
     obtain⟨Q,hQ⟩ : ∃ Q,(Fs.take j).flatMap fmtF=Q:=⟨_,rfl⟩
     rw [hQ] at hQl ⊢
     have HQ:Hid (Fs.flatMap fmtF=Q):=Lib.hid (by rw [<- hQ,HFE.out])
     clear hQ
     have hst:=st_app
     go_wp2_with fail
     refine bodyPost_ret (v:=.string (st (P++Q))) (by simp [results,Tryd.results11,go_sem]) rfl ?_
     exact⟨by unfold fmtP;rw [HP.out,HQ.out],HB1.out.trans (HBS.out.mono HB1.out.size)⟩
def TextPost (gc:Nat) (w:World) (e:Ending) (w':World):Prop :=
 ∃ (wx:World) (gs:List (Bt×Int)) (fs:List Fr) (Fs:List Fn) (aa:Option Addr) (ca:Nat) (ab:Option Addr) (cb:Nat),e=.returned (.string (st (fmtP gs Fs)))/\Cod w' gc/\w.grownBy w' (some gc)/\SrcIn wx gs fs Fs aa ca ab cb
set_option maxRecDepth 100000 in
set_option maxHeartbeats 4000000 in
theorem Text_any (gc:Nat) (w:World) (h:Cod w gc):Calls Tryd.prog 6 #[.pointer (some ⟨gc,0,none⟩)] w (TextPost gc w):=by
 have HC:=Lib.hid h
 clear h
 go_enter Tryd.func6,Tryd.ntmps6
 go_wp2_with fail
 refine(Source_any gc _ HC.out).mono ?_
 intro e w1 hp
 obtain⟨gs,fs,Fs,aa,ca,ab,cb,rfl,hc1,hg1,hs1⟩:=SrcIn.of_post hp
 have HC1:=Lib.hid hc1
 have HG1:=Lib.hid hg1
 have HS1:=Lib.hid hs1
 clear hp hc1 hg1 hs1
 go_wp2_with fail
 refine(Format_any _ gs fs Fs aa ab ca cb HS1.out).mono ?_
 rintro e w2 ⟨rfl,hb2⟩
 have HB2:=Lib.hid hb2
 obtain⟨X,hX⟩ : ∃ X,fmtP gs Fs=X:=⟨_,rfl⟩
 have HX:=Lib.hid hX
 rw [hX]
 clear hX hb2
 go_wp2_with fail
 refine bodyPost_ret (v:=.string (st X)) (by simp [results,Tryd.results6,go_sem]) rfl ?_
 exact⟨w1,gs,fs,Fs,aa,ca,ab,cb,by rw [HX.out],HC1.out.below HB2.out HC1.out.lt,grownBy_trans HG1.out (grownBy_of_below HB2.out _),HS1.out⟩
end Go.Proofs.YtpcdinelpfbpfaaDoor
