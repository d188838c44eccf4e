/-
  WORDS, PLAIN LAWS and WALKS (Mfp Mda Mst Mdb), pressed. (Filled in from templates of this repo.)
-/
import Derived.Test.YtldgghnjminhiaaGreatDoorG2
import Derived.Deep.CutBlock
import Derived.Deep.CutRange
namespace Go.Proofs.YtldgghnjminhiaaGreatDoor
open Go Go.ChangeAt Go.ChangeShapes Go.RowKit Go.WideShapes
set_option linter.unusedVariables false
set_option linter.unusedSimpArgs false
set_option maxRecDepth 100000
set_option maxHeartbeats 16000000
def xvf:List Bt:=[[],[45],[33],[43],[45],[42],[47],[37],[60],[60,61],[61,61],[33,61]]
def sgn (op:Int):Bt:=if op<0 then [] else xvf.getD op.toNat []
theorem Eh (op:Int):(sgn op).length<=2:=by
 unfold sgn
 split
 ·simp
 by_cases h:op.toNat<12
 ·have:op.toNat=0\/op.toNat=1\/op.toNat=2\/op.toNat=3\/op.toNat=4\/op.toNat=5\/op.toNat=6\/op.toNat=7\/op.toNat=8\/op.toNat=9\/op.toNat=10\/op.toNat=11:=by omega
  rcases this with e|e|e|e|e|e|e|e|e|e|e|e<;>rw[e]<;>decide
 have e:xvf[op.toNat]?=none:=List.getElem?_eq_none (by show 12<=_;omega)
 rw[List.getD,e];simp
def Uw (h:Hd):Bool:=decide (h.k=5)||decide (h.k=6)||decide (h.k=7)||decide (h.k=8)
def Ql (s:Bt):Bt:=40::(s++[41])
def opd (h:Hd) (s:Bt):Bt:=if Uw h=true then Ql s else s
def comm:List Bt->Bt
 | []=>[]
 | [s]=>s
 | s::r=>s++([44,32]++comm r)
def Uj (ss:List Bt):Bt:=Ql (comm ss)
def Zj (h:Hd) (os:List (Hd×Bt)):Bt :=
 if h.k=1 then Lib.decDigits h.v.toNat
 else if h.k=13\/h.k=2\/h.k=3 then h.nm
 else if h.k=12 then [114,101,97,100]
 else if h.k=11 then 38::h.nm
 else if h.k=4 then (match os with|[a]=>h.nm++([91]++(a.2++[93]))|_=>[])
 else if h.k=5 then (match os with|[a]=>sgn h.op++opd a.1 a.2|_=>[])
 else if h.k=6 then (match os with|[a,b]=>opd a.1 a.2++([32]++(sgn h.op++([32]++opd b.1 b.2)))|_=>[])
 else if h.k=7 then (match os with|[a,b]=>opd a.1 a.2++([32,38,38,32]++opd b.1 b.2)|_=>[])
 else if h.k=8 then (match os with|[a,b]=>opd a.1 a.2++([32,124,124,32]++opd b.1 b.2)|_=>[])
 else if h.k=9 then h.nm++Uj (os.map (·.2))
 else if h.k=10 then (match os with|a::r=>(if a.1.k=13\/a.1.k=2\/a.1.k=3 then Ql (opd a.1 a.2) else opd a.1 a.2)++Uj (r.map (·.2))|[]=>[])
 else []
def Yl:Fo->List (Hd×Bt)
 | .nil=>[]
 | .cons h ar r=>(h,Zj h (Yl ar))::Yl r
abbrev Yw (h:Hd) (ar:Fo):Bt:=Zj h (Yl ar)
theorem Um (F:Fo):(Yl F).length=F.len:=by
 induction F with
 | nil=>rfl
 | cons h ar r _ ih=>simp[Yl,Fo.len,ih]
theorem Qf (F:Fo) (j:Nat) (x:Hd×Fo) (h:F.get j=some x):(Yl F)[j]?=some (x.1,Yw x.1 x.2):=by
 induction F generalizing j with
 | nil=>cases h
 | cons hd ar r _ ih =>
  cases j with
  | zero =>
   have e:(hd,ar)=x:=by injection h
   subst e;rfl
  | succ j=>exact ih j h
def tot:List (Hd×Bt)->Nat
 | []=>0
 | a::r=>a.2.length+tot r
theorem Uz (h:Hd) (s:Bt):(opd h s).length<=s.length+2:=by
 unfold opd Ql
 split
 ·simp
 omega
theorem Mh (os:List (Hd×Bt)):(comm (os.map (·.2))).length<=tot os+2*os.length:=by
 induction os with
 | nil=>simp[comm]
 | cons a r ih =>
  cases r with
  | nil=>simp[comm,tot]
  | cons b r =>
   show (a.2++(([44,32]:Bt)++comm ((b::r).map (λ (x:Hd×Bt)=>x.2)))).length<=a.2.length+tot (b::r)+2*((b::r).length+1)
   rw[List.length_append,List.length_append]
   simp only[List.length_cons,List.length_nil] at ih ⊢
   omega
theorem Is (h:Hd) (ar:Fo) (hok:okH h ar) (os:List (Hd×Bt)) (ho:os.length=ar.len):(Zj h os).length<=own h ar.len+tot os:=by
 unfold Zj own
 by_cases k1:h.k=1
 ·rw[if_pos k1,if_pos k1]
  rcases hok with hok|hok|hok
  ·omega
  ·have:=Zg (n:=h.v.toNat) (by omega);omega
  omega
 rw[if_neg k1,if_neg k1]
 have hnm:h.nm.length<=4:=by
  rcases hok with⟨_,_,hok⟩|⟨_,_,hok,_⟩|⟨_,hok,_⟩
  ·rcases hok with⟨_,hok,_⟩|⟨_,hok,_⟩|⟨_,hok,_⟩|⟨_,hok,_⟩|⟨_,hok,_⟩|⟨_,hok,_⟩|⟨_,hok,_⟩<;>first|(obtain⟨_,_,_,_,_,_,hl⟩:=hok;exact hl)|(rw[hok];simp)
  ·rw[hok];simp
  rw[hok];simp
 have hzf:os.length<=3:=by
  rw[ho]
  rcases hok with⟨_,_,hok⟩|⟨_,_,_,_,_,hok⟩|⟨_,_,hok⟩
  ·rcases hok with⟨_,_,hok⟩|⟨_,_,hok⟩|⟨_,_,hok⟩|⟨_,_,hok⟩|⟨_,_,hok⟩|⟨_,_,hok⟩|⟨_,_,g,bs,r,hok,_,hr⟩<;>first|(subst hok;simp[Fo.len];done)|(subst hok;simp only[Fo.len];omega)|omega
  ·subst hok;simp[Fo.len]
  omega
 have hsl:=Eh h.op
 by_cases k13:h.k=13
 ·rw[if_pos (.inl k13),if_pos k13];omega
 by_cases k2:h.k=13\/h.k=2\/h.k=3
 ·rw[if_pos k2,if_neg k13]
  by_cases e:h.k=12
  ·omega
  rw[if_neg e]
  split<;>omega
 rw[if_neg k2,if_neg k13]
 by_cases k12:h.k=12
 ·rw[if_pos k12,if_pos k12];simp;omega
 rw[if_neg k12,if_neg k12]
 by_cases k11:h.k=11
 ·rw[if_pos k11,if_pos k11];simp;omega
 rw[if_neg k11,if_neg k11]
 have hop:=Uz
 split
 ·split
  ·simp[tot];omega
  simp
 split
 ·split
  ·rename_i a
   have:=Uz a.1 a.2
   simp[tot];omega
  simp
 split
 ·split
  ·rename_i a b
   have:=Uz a.1 a.2
   have:=Uz b.1 b.2
   simp[tot];omega
  simp
 split
 ·split
  ·rename_i a b
   have:=Uz a.1 a.2
   have:=Uz b.1 b.2
   simp[tot];omega
  simp
 split
 ·split
  ·rename_i a b
   have:=Uz a.1 a.2
   have:=Uz b.1 b.2
   simp[tot];omega
  simp
 split
 ·have:=Mh os
  simp[Uj,Ql];omega
 split
 ·split
  ·rename_i a r
   have h1:=Uz a.1 a.2
   have h2:=Mh r
   simp only[List.length_cons] at hzf
   have h3:(if a.1.k=13\/a.1.k=2\/a.1.k=3 then Ql (opd a.1 a.2) else opd a.1 a.2).length<=a.2.length+4:=by
    split
    ·simp[Ql];omega
    omega
   simp only[List.length_append,Uj,Ql,List.length_cons,List.length_nil,tot] at h3 ⊢
   omega
  simp
 simp
theorem Mp (F:Fo) (hw:F.wf):tot (Yl F)<=F.cst:=by
 induction F with
 | nil=>exact Nat.le_refl _
 | cons h ar r ih1 ih2 =>
  have h1:=ih1 hw.2.2.1
  have h2:=ih2 hw.2.2.2
  have h3:=Is h ar hw.1 (Yl ar) (Um ar)
  show (Zj h (Yl ar)).length+tot (Yl r)<=own h ar.len+ar.cst+r.cst
  omega
theorem Zb.get {w:World} {P:Nat->Prop} {F:Fo} {cs:List Value} (h:Zb w P F cs) {j:Nat} {x:Hd×Fo} (hj:F.get j=some x):∃ sl,Xk w P x.2 sl/\∀ i u,(hdc x.1 sl)[i]?=some u->cs[j*6+i]?=some u:=by
 induction F generalizing cs j with
 | nil=>cases hj
 | cons hd ar r _ ih =>
  obtain⟨a,cap,rws,cs',rfl,h1,h2,h3,h4,h5,h6⟩:=h
  cases j with
  | zero =>
   have e:(hd,ar)=x:=by injection hj
   subst e
   refine⟨_,⟨a,cap,rws,rfl,h1,h2,h3,h4,h5⟩,λ i u hi=>?_⟩
   have:i<6:=(List.getElem?_eq_some_iff.1 hi).1
   rw[Nat.zero_mul,Nat.zero_add,List.getElem?_append_left (by simpa using this)]
   exact hi
  | succ j =>
   obtain⟨sl,k1,k2⟩:=ih h6 hj
   refine⟨sl,k1,λ i u hi=>?_⟩
   rw[List.getElem?_append_right (by show 6<=_;omega)]
   have e:(j+1)*6+i-6=j*6+i:=by omega
   show cs'[(j+1)*6+i-6]?=_
   rw[e]
   exact k2 i u hi
theorem Bx (l:List Bt) (s:Bt):comm (l++[s])=if l=[] then s else comm l++([44,32]++s):=by
 induction l with
 | nil=>rfl
 | cons x l ih =>
  rw[if_neg (by simp)]
  cases l with
  | nil=>rfl
  | cons y l =>
   rw[if_neg (by simp)] at ih
   show x++([44,32]++comm ((y::l)++[s]))=x++([44,32]++comm (y::l))++([44,32]++s)
   rw[ih]
   simp[List.append_assoc]
theorem Bz (os:List (Hd×Bt)) (i:Nat) (x:Hd×Bt) (h:os[i]?=some x):comm ((os.map (·.2)).take (i+1))=if i=0 then x.2 else comm ((os.map (·.2)).take i)++([44,32]++x.2):=by
 have hi:=(List.getElem?_eq_some_iff.1 h).1
 have e:(os.map (·.2)).take (i+1)=(os.map (·.2)).take i++[x.2]:=by
  rw[List.take_add_one]
  congr 1
  rw[List.getElem?_map,h];rfl
 rw[e,Bx]
 by_cases h0:i=0
 ·subst h0;simp
 rw[if_neg h0,if_neg (by
  intro e2
  have h3:((os.map (·.2)).take i).length=i:=by rw[List.length_take,List.length_map];omega
  rw[e2] at h3
  exact h0 h3.symm)]
theorem xjj (os:List (Hd×Bt)) (i:Nat) (x:Hd×Bt) (h:os[i]?=some x):x.2.length<=tot os:=by
 induction os generalizing i with
 | nil=>simp at h
 | cons a r ih =>
  cases i with
  | zero=>simp at h;subst h;simp[tot]
  | succ i=>have:=ih i (by simpa using h);simp only[tot];omega
theorem Xk.elemP {w:World} {P:Nat->Prop} {ar:Fo} {a:Option Addr} {c:Nat} (h:Xk w P ar (.slice a ar.len c)) {j:Nat} {x:Hd×Fo} (hj:ar.get j=some x) :
  ∃ b off asl csl,a=some ⟨b,off,none⟩/\b<w.heap.size/\P b/\Xk w P x.2 (.slice asl x.2.len csl)/\∀ i u,(hdc x.1 (.slice asl x.2.len csl))[i]?=some u->w.cell? ⟨b,off+j*6+i,none⟩=some u:=by
 obtain⟨a',c',rws,e,h1,h2,h3,h4,h5⟩:=h
 injection e with e1 e2 e3
 subst e1
 obtain⟨sl,ha,hc⟩:=h5.get hj
 obtain⟨b,off,rfl,hp,hb,hjl⟩:=h4 (λ e=>by have:=hc 0 _ rfl;rw[e] at this;cases this)
 obtain⟨asl,csl,_,rfl,-⟩:=id ha
 exact⟨b,off,asl,csl,rfl,hb,hp,ha,λ i u hi=>by rw[Nat.add_assoc];exact hjl _ _ (hc i u hi)⟩
theorem Kj (x y:Bt):st x++st y=st (x++y):=by apply ByteArray.ext;simp[ByteArray.data_append]
structure Fn where
 nm:Bt
 ps:List Bt
 bd:Sf
def Tb (w:World) (a:Option Addr) (gs:List (Bt×Int)):Prop:=∀ j x,gs[j]?=some x->∃ b off,a=some ⟨b,off,none⟩/\b<w.heap.size /\
 w.cell? ⟨b,off+j*2,none⟩=some (.string (st x.1))/\w.cell? ⟨b,off+j*2+1,none⟩=some (.int .i64 x.2)
theorem Tb.of_own {w:World} {base n:Nat} {e:TypeId} {v:Value} {gs:List (Bt×Int)} (h:w.ownsRow base e 2 v n (glc gs)) :
  ∃ a cap,v=.slice a n cap/\gs.length=n/\n<=cap/\cap<=maxLen/\Tb w a gs:=by
 obtain⟨a,cap,rfl,h1,h2,h3,h4,h5⟩:=Yd.of_own h
 rw[xqv] at h1
 refine⟨a,cap,rfl,by omega,h2,h3,λ j s hj=>?_⟩
 obtain⟨g1,g2⟩:=xqw gs j s hj
 obtain⟨b,off,e1,hb,hc⟩:=h4 (λ e=>by rw[e] at g1;simp at g1)
 exact⟨b,off,e1,hb,hc _ _ g1,by rw[Nat.add_assoc];exact hc _ _ g2⟩
def Wb (M:Mk) (arr:Bool) (nm:Bt):Prop:=∃ g∈M.gs,g.1=nm/\decide (0<g.2)=arr
def Op (gc gm:Nat) (M:Mk) (arr:Bool) (w:World) (e:Ending) (w':World):Prop :=
 ∃ (nm:Bt) (ok:Bool),e=.returned (.tuple #[.string (st nm),.bool ok])/\(ok=true->Wb M arr nm)/\Cod w' gc/\w.grownBy w' (some gc)
theorem Wf (gc gm:Nat) (M:Mk) (arr:Bool) (w:World) (h:Yg w gc gm M):Calls Tryz.prog 121 #[.pointer (some ⟨gm,0,none⟩),.bool arr] w (Op gc gm M arr w):=by
 obtain⟨i0,hi0,hz0,hz1,hz2⟩:=info_parts Tryz.infoStr
 have HI:=Xj hi0
 have HZ0:=Xj hz0
 have HZ1:=Xj hz1
 have HZ2:=Xj hz2
 clear hi0 hz0 hz1 hz2
 have HM:=Xj h
 obtain⟨ag,cg,hva,hgl,hgc1,hpg,_⟩:=Tb.of_own h.gl
 have hgn:=h.gn
 have hnn:M.gs.length<=9223372036854775807:=by omega
 have hqm:=h.lt2
 have hjz:=h.row
 rw[hva] at hjz
 have c0:=cell_of_row _ _ 0 _ _ _ hjz
 have c1:=cell_of_row _ _ 1 _ _ _ hjz
 have HVA:=Xj hva
 have HROW:=Xj hjz
 clear h hva hjz
 go_enter Tryz.func121,Tryz.ntmps121
 go_wp2_with fail
 go_loopw [6,7] (λ v6 v7 wr=>∃ (i:Nat) (acc:List Bt),v7=.int .i64 i/\i<=M.gs.length/\acc.length<=i/\Xq ((∀ l∈acc,Wb M arr l)/\Below w.heap.size w wr/\wr.ownsRow w.heap.size 9 1 v6 acc.length (Qw acc))) (λ _ v7 _=>M.gs.length-(intOf v7).toNat)
 case atStart=>exact⟨0,[],rfl,by omega,by simp,Xj ⟨by simp,Below.refl _ _,World.ownsRow_nil _ _ _ _⟩⟩
 obtain⟨i,acc,rfl,hi,hacc,HR⟩:=hrel
 have hM2:=HM.o.below HR.o.2.1
 have hsz:=HR.o.2.1.size
 clear c0 c1
 have hjz:=hM2.row
 rw[HVA.o] at hjz
 have c0:=cell_of_row _ _ 0 _ _ _ hjz
 have c1:=cell_of_row _ _ 1 _ _ _ hjz
 clear hjz
 by_cases hlt:i<M.gs.length
 ·obtain⟨g,hg⟩:∃ g,M.gs[i]?=some g:=⟨_,List.getElem?_eq_getElem hlt⟩
  obtain⟨ag',cg',hva',_,_,_,hgls⟩:=Tb.of_own hM2.gl
  rw[HVA.o] at hva'
  injection hva' with e1 e2 e3
  subst e1 e3
  obtain⟨b,off,rfl,hb,g1,g2⟩:=hgls i g hg
  have HMEM:Xq (g∈M.gs):=Xj (List.mem_of_getElem? hg)
  clear hgls hM2 hg
  cases hs:decide ((0:Int)<g.2)<;>cases arr
  ·have HOA:=Xj (HR.o.2.2.alloc (.cells #[.string (st g.1)] 9))
   have HBA:=Xj (HR.o.2.1.alloc HR.o.2.1.size (.cells #[.string (st g.1)] 9))
   have HPK:Xq (Wb M false g.1):=Xj ⟨g,HMEM.o,rfl,hs⟩
   go_wp2_with (at_builtin;refine wpList_append_own _ rfl _ _ _ rfl w.heap.size 9 i0 _ 1 16 Tryz.underlying42 HI.o HZ0.o HZ1.o HZ2.o rfl (by omega) _ _ _ rfl HOA.o ⟨wr.heap.size,0,none⟩ 1 1 [.string (st g.1)] rfl rfl (World.news_of_block (cs := #[.string (st g.1)]) (t:=9) (fr:=(0,0)) (heap_alloc_new wr _)) (by simp[Value.oneCell']) (by unfold maxLen;omega) (by omega) (by simp;omega) ?_;intro v' w9 hown9 hgrow9 _;have HO9:=Xj hown9;have HG9:=Xj hgrow9;clear hown9 hgrow9)
   go_roundw
   case rel =>
    refine⟨i+1,acc++[g.1],by go_num,by omega,by simp;omega,Xj ⟨?_,HBA.o.grown HG9.o HBA.o.size (λ k hk=>(HOA.o.lt k hk).1),?_⟩⟩
    ·intro l hl
     rw[List.mem_append] at hl
     rcases hl with hl|hl
     ·exact HR.o.1 l hl
     simp at hl;subst hl;exact HPK.o
    have:=HO9.o
    rw[<- Hl]
    simpa using this
   simp[intOf];omega
  ·go_wp2_with fail
   go_roundw
   case rel=>exact⟨i+1,acc,by go_num,by omega,by omega,HR⟩
   simp[intOf];omega
  ·go_wp2_with fail
   go_roundw
   case rel=>exact⟨i+1,acc,by go_num,by omega,by omega,HR⟩
   simp[intOf];omega
  have HOA:=Xj (HR.o.2.2.alloc (.cells #[.string (st g.1)] 9))
  have HBA:=Xj (HR.o.2.1.alloc HR.o.2.1.size (.cells #[.string (st g.1)] 9))
  have HPK:Xq (Wb M true g.1):=Xj ⟨g,HMEM.o,rfl,hs⟩
  go_wp2_with (at_builtin;refine wpList_append_own _ rfl _ _ _ rfl w.heap.size 9 i0 _ 1 16 Tryz.underlying42 HI.o HZ0.o HZ1.o HZ2.o rfl (by omega) _ _ _ rfl HOA.o ⟨wr.heap.size,0,none⟩ 1 1 [.string (st g.1)] rfl rfl (World.news_of_block (cs := #[.string (st g.1)]) (t:=9) (fr:=(0,0)) (heap_alloc_new wr _)) (by simp[Value.oneCell']) (by unfold maxLen;omega) (by omega) (by simp;omega) ?_;intro v' w9 hown9 hgrow9 _;have HO9:=Xj hown9;have HG9:=Xj hgrow9;clear hown9 hgrow9)
  go_roundw
  case rel =>
   refine⟨i+1,acc++[g.1],by go_num,by omega,by simp;omega,Xj ⟨?_,HBA.o.grown HG9.o HBA.o.size (λ k hk=>(HOA.o.lt k hk).1),?_⟩⟩
   ·intro l hl
    rw[List.mem_append] at hl
    rcases hl with hl|hl
    ·exact HR.o.1 l hl
    simp at hl;subst hl;exact HPK.o
   have:=HO9.o
   rw[<- Hl]
   simpa using this
  simp[intOf];omega
 obtain rfl:i=M.gs.length:=by omega
 obtain⟨a6,c6,rfl,h61,h62,h63,h64,_⟩:=Yd.of_own HR.o.2.2
 have HCOD:=Xj hM2.cod
 clear h61 h64 hM2
 unfold maxLen at h63
 cases acc with
 | nil =>
  go_wp2_with fail
  refine bodyPost_ret (v:=.tuple #[.string (st []),.bool false]) (by simp[results,Tryz.results121,go_sem]) rfl ?_
  exact⟨[],false,rfl,(λ h=>nomatch h),HCOD.o,Xm HR.o.2.1 _⟩
 | cons l0 lr =>
  obtain⟨n,hn⟩:∃ n,(l0::lr).length=n:=⟨_,rfl⟩
  have HN:=Xj hn
  have hn1:1<=n:=by rw[<- hn];simp
  have hn2:n<=4:=by omega
  rw[hn] at h62 ⊢
  clear hn
  have dn:((n:Int)==0)=false:=by rw[beq_eq_false_iff_ne];omega
  go_wp2_with fail
  refine(Yj gc n (by omega) _ HCOD.o).mono ?_
  rintro e w2 ⟨x,rfl,x0,x1,hH,hg⟩
  obtain⟨x,rfl⟩:=Int.eq_ofNat_of_zero_le x0
  have x2:x<n:=by omega
  have hjj:=Yx HR.o.2.2 hg (by omega)
  obtain⟨_,_,e1,_,_,_,hcs,_⟩:=Yd.of_own hjj
  injection e1 with e1 e2 e3
  subst e1
  have hgx:(l0::lr)[x]?=some ((l0::lr).getD x []):=by
   have:=HN.o
   rw[List.getD,List.getElem?_eq_getElem (by omega)];rfl
  obtain⟨nm,hnm⟩:∃ nm,(l0::lr).getD x []=nm:=⟨_,rfl⟩
  rw[hnm] at hgx
  have hsx:(Qw (l0::lr))[x]?=some (.string (st nm)):=by unfold Qw;rw[List.getElem?_map,hgx];rfl
  obtain⟨b,off,rfl,hb,hc⟩:=hcs (λ e=>by rw[e] at hsx;cases hsx)
  have hcx:=hc _ _ hsx
  have HPK:Xq (Wb M arr nm):=Xj (HR.o.1 nm (List.mem_of_getElem? hgx))
  have hjt:=Xj (Xp (Xm HR.o.2.1 (some gc)) hg)
  have HCD:=Xj hH
  have hx1':(x:Int)<(n:Int):=by omega
  clear hjj hcs hgx hnm hsx hc hg hH x1
  go_wp2_with fail
  refine bodyPost_ret (v:=.tuple #[.string (st nm),.bool true]) (by simp[results,Tryz.results121,go_sem]) rfl ?_
  exact⟨nm,true,rfl,λ _=>HPK.o,HCD.o,hjt.o⟩
theorem Ln {w:World} {gc b:Nat} {v0 v1 v2 v3 v4 v5:Value} (h:Cod w gc) (hb:gc<b):Cod (set6 w b v0 v1 v2 v3 v4 v5) gc:=h.keep λ k hk=>Yq k (by omega)
theorem Bc {w:World} {b lo:Nat} {v0 v1 v2 v3 v4 v5:Value} {ar:Fo} {sl:Value} (h:Xk w (λ k=>b<k) ar sl) (hlo:lo<=b):Xk (set6 w b v0 v1 v2 v3 v4 v5) (λ k=>lo<=k) ar sl :=
 h.keep (λ k hk _=>⟨Yq k (by omega),by omega⟩) (by rw[Zz];exact Nat.le_refl _)
structure ExW (w:World) (gc gm:Nat) (M:Mk) (g:Nat) (wx:World):Prop where
 eg:g=w.heap.size
 row:wx.heap[g]?=some zex
 mkr:Yg wx gc gm M
 gr:w.grownBy wx (some gc)
theorem ExW.start {w:World} {gc gm:Nat} {M:Mk} (h:Yg w gc gm M):ExW w gc gm M w.heap.size (w.alloc zex) :=
 ⟨rfl,heap_alloc_new w _,h.below (Xw _ _),Xm (Xw _ _) _⟩
theorem ExW.lts {w:World} {gc gm:Nat} {M:Mk} {g:Nat} {wx:World} (h:ExW w gc gm M g wx):g<wx.heap.size:=Xv h.row
theorem ExW.grown {w:World} {gc gm:Nat} {M:Mk} {g:Nat} {wx wy:World} (h:ExW w gc gm M g wx) (hl:gc<g) (hg:wx.grownBy wy (some gc)) (hc:Cod wy gc):ExW w gc gm M g wy :=
 ⟨h.eg,(hg.block g h.lts (λ e=>by injection e with e;omega)).trans h.row,h.mkr.grown hg hc,Xp h.gr hg⟩
theorem ExW.below {w:World} {gc gm:Nat} {M:Mk} {g:Nat} {wx wy:World} (h:ExW w gc gm M g wx) (hb:Below wx.heap.size wx wy):ExW w gc gm M g wy :=
 ⟨h.eg,(hb.block g h.lts).trans h.row,h.mkr.below hb,Xp h.gr (Xm hb _)⟩
theorem ExW.fin {w:World} {gc gm:Nat} {M:Mk} {g:Nat} {wx:World} {d:Nat} (h:ExW w gc gm M g wx) (hl:gc<g) {hd:Hd} {ar:Fo} {sl:Value} (ha:Xk wx (λ k=>g<k) ar sl) (hE:Zd d hd ar) :
  ∀ W,W=set6 wx g (.int .i64 hd.k) (.int .i64 hd.op) (.int .i64 hd.v) (.int .i64 hd.ln) (.string (st hd.nm)) sl ->
   W.cell? ⟨g,0,none⟩=some (.int .i64 hd.k)/\W.cell? ⟨g,1,none⟩=some (.int .i64 hd.op)/\W.cell? ⟨g,2,none⟩=some (.int .i64 hd.v)/\W.cell? ⟨g,3,none⟩=some (.int .i64 hd.ln)/\W.cell? ⟨g,4,none⟩=some (.string (st hd.nm))/\W.cell? ⟨g,5,none⟩=some sl/\Xq (Ut gc gm d w (.returned (exv hd sl)) W):=λ W hW=>by
 subst hW
 obtain⟨q0,q1,q2,q3,q4,q5⟩:=Xl (Qy (v0:=.int .i64 hd.k) (v1:=.int .i64 hd.op) (v2:=.int .i64 hd.v) (v3:=.int .i64 hd.ln) (v4:=.string (st hd.nm)) (v5:=sl) h.row)
 exact⟨q0,q1,q2,q3,q4,q5,Xj ⟨hd,ar,sl,rfl,Bc ha (Nat.le_of_eq h.eg.symm),hE,Ln h.mkr.cod hl,Gp h.gr (Nat.le_of_eq h.eg.symm)⟩⟩
theorem ExW.cells {w:World} {gc gm:Nat} {M:Mk} {g:Nat} {wx:World} (h:ExW w gc gm M g wx) :
  g<wx.heap.size/\wx.frozen? ⟨g,0,none⟩=false/\wx.frozen? ⟨g,1,none⟩=false/\wx.frozen? ⟨g,2,none⟩=false/\wx.frozen? ⟨g,3,none⟩=false/\wx.frozen? ⟨g,4,none⟩=false/\wx.frozen? ⟨g,5,none⟩=false /\
  wx.cell? ⟨g,0,none⟩=some (.int .i64 0)/\wx.cell? ⟨g,1,none⟩=some (.int .i64 0)/\wx.cell? ⟨g,2,none⟩=some (.int .i64 0)/\wx.cell? ⟨g,3,none⟩=some (.int .i64 0)/\wx.cell? ⟨g,4,none⟩=some (.string { data := #[] })/\wx.cell? ⟨g,5,none⟩=some (.slice none 0 0) :=
 ⟨h.lts,frozen_of_row _ g 0 _ _ h.row,frozen_of_row _ g 1 _ _ h.row,frozen_of_row _ g 2 _ _ h.row,frozen_of_row _ g 3 _ _ h.row,frozen_of_row _ g 4 _ _ h.row,frozen_of_row _ g 5 _ _ h.row,Xl h.row⟩
theorem Yg.set {w wx:World} {gc gm:Nat} {M:Mk} {p:Addr} {v:Value} (h:Yg wx gc gm M) (hM:Yg w gc gm M) (hp:w.heap.size<=p.block):Yg (wx.setCell p v) gc gm M :=
 have kp:∀ b,b≠p.block->(wx.setCell p v).heap[b]?=wx.heap[b]?:=λ b hb=>heap_setCell_other wx p b v hb
 have key:∀ {e k n:Nat} {u:Value} {l:List Value},wx.ownsRow (gm+1) e k u n l->w.ownsRow (gm+1) e k u n l->(wx.setCell p v).ownsRow (gm+1) e k u n l:=λ {e k n u l} h1 h2=>by
  have hg:wx.grownBy (wx.setCell p v) (some p.block):=⟨rfl,rfl,rfl,by simp[World.setCell],λ k hk hn=>kp k (λ e=>hn (by rw[e]))⟩
  refine h1.kept hg ?_
  cases hq:u.ownBlock with
  | none=>exact .inl rfl
  | some q=>exact .inr (λ e=>by injection e with e;have:=(h2.lt q hq).2;omega)
 {h with
  cod:=h.cod.keep λ k hk=>kp k (by have:=hM.cod.lt;omega)
  row:=(kp gm (by have:=Xv hM.row;omega)).trans h.row
  gl:=key h.gl hM.gl
  fn:=key h.fn hM.fn
  lo:=key h.lo hM.lo }
theorem ExW.set {w:World} {gc gm:Nat} {M:Mk} {g:Nat} {wx:World} {p:Addr} {v:Value} (h:ExW w gc gm M g wx) (hp:g<p.block) (hM:Yg w gc gm M):ExW w gc gm M g (wx.setCell p v) :=
 ⟨h.eg,(heap_setCell_other wx p g v (by omega)).trans h.row,h.mkr.set hM (by have:=h.eg;omega),Yu h.gr (by have:=h.eg;omega)⟩
theorem ExW.set4 {w:World} {gc gm:Nat} {M:Mk} {g b:Nat} {wx:World} {v0 v1 v2 v3:Value} (h:ExW w gc gm M g wx) (hl:gc<g) (hgm:gm<g) (hp:g<b) (hM:Yg w gc gm M):ExW w gc gm M g (set4 wx b v0 v1 v2 v3) :=
 (((h.set (p:=⟨b,0,none⟩) hp hM).set (p:=⟨b,1,none⟩) hp hM).set (p:=⟨b,2,none⟩) hp hM).set (p:=⟨b,3,none⟩) hp hM
theorem ExW.set6 {w:World} {gc gm:Nat} {M:Mk} {g b:Nat} {wx:World} {v0 v1 v2 v3 v4 v5:Value} (h:ExW w gc gm M g wx) (hp:g<b) (hM:Yg w gc gm M):ExW w gc gm M g (set6 wx b v0 v1 v2 v3 v4 v5) :=
 (((((h.set (p:=⟨b,0,none⟩) hp hM).set (p:=⟨b,1,none⟩) hp hM).set (p:=⟨b,2,none⟩) hp hM).set (p:=⟨b,3,none⟩) hp hM).set (p:=⟨b,4,none⟩) hp hM).set (p:=⟨b,5,none⟩) hp hM
theorem Yg.own {w wx wy:World} {gc gm:Nat} {M:Mk} {r:Option Nat} (h:Yg wx gc gm M) (hM:Yg w gc gm M) (hg:wx.grownBy wy r) (hr:∀ k,r=some k->w.heap.size<=k):Yg wy gc gm M :=
 have hs:=hg.size
 have kp:∀ b,b<w.heap.size->b<wx.heap.size->wy.heap[b]?=wx.heap[b]?:=λ b hb hbx=>hg.block b hbx (λ e=>by have:=hr b e.symm;omega)
 have key:∀ {e k n:Nat} {u:Value} {l:List Value},wx.ownsRow (gm+1) e k u n l->w.ownsRow (gm+1) e k u n l->wy.ownsRow (gm+1) e k u n l:=λ {e k n u l} h1 h2=>by
  refine h1.kept hg ?_
  cases hq:u.ownBlock with
  | none=>exact .inl rfl
  | some q=>exact .inr (λ e=>by have:=hr q e.symm;have:=(h2.lt q hq).2;omega)
 {h with
  cod:=h.cod.keep λ k hk=>kp k (by have:=hM.cod.lt;omega) (by have:=h.cod.lt;omega)
  row:=(kp gm (Xv hM.row) (Xv h.row)).trans h.row
  gl:=key h.gl hM.gl
  fn:=key h.fn hM.fn
  lo:=key h.lo hM.lo }
theorem ExW.own {w:World} {gc gm:Nat} {M:Mk} {g:Nat} {wx wy:World} {r:Option Nat} (h:ExW w gc gm M g wx) (hg:wx.grownBy wy r) (hr:∀ k,r=some k->g<k) (hM:Yg w gc gm M) (hl:gc<g):ExW w gc gm M g wy :=
 ⟨h.eg,(hg.block g h.lts (λ e=>by have:=hr g e.symm;omega)).trans h.row,h.mkr.own hM hg (λ k hk=>by have:=hr k hk;have:=h.eg;omega),
  ⟨hg.os.trans h.gr.os,hg.tape.trans h.gr.tape,hg.output.trans h.gr.output,Nat.le_trans h.gr.size hg.size,λ k hk hn=>(hg.block k (Nat.lt_of_lt_of_le hk h.gr.size) (λ e=>by have:=hr k e.symm;have:=h.eg;omega)).trans (h.gr.block k hk hn)⟩⟩
def Ev (w:World) (a:Option Addr) (ls:List Bt):Prop:=∀ j x,ls[j]?=some x->∃ b off,a=some ⟨b,off,none⟩/\b<w.heap.size/\w.cell? ⟨b,off+j,none⟩=some (.string (st x))
theorem Ev.of_own {w:World} {base n:Nat} {e:TypeId} {v:Value} {ls:List Bt} (h:w.ownsRow base e 1 v n (Qw ls)) :
  ∃ a cap,v=.slice a n cap/\ls.length=n/\n<=cap/\cap<=maxLen/\Ev w a ls:=by
 obtain⟨a,cap,rfl,h1,h2,h3,h4,h5⟩:=Yd.of_own h
 refine⟨a,cap,rfl,by simpa using h1,h2,h3,λ j x hj=>?_⟩
 have hs:(Qw ls)[j]?=some (.string (st x)):=by unfold Qw;rw[List.getElem?_map,hj];rfl
 obtain⟨b,off,e1,hb,hc⟩:=h4 (λ e=>by rw[e] at hs;cases hs)
 exact⟨b,off,e1,hb,hc _ _ hs⟩
theorem Ev.get {w:World} {base n cap j:Nat} {e:TypeId} {v:Value} {a:Option Addr} {ls:List Bt} (h:w.ownsRow base e 1 v ls.length (Qw ls)) (hv:v=.slice a n cap) (hj:j<ls.length) :
  ∃ nm b off,a=some ⟨b,off,none⟩/\b<w.heap.size/\nm∈ls/\w.cell? ⟨b,off+j,none⟩=some (.string (st nm)):=by
 obtain⟨a',cap',e1,_,_,_,hls⟩:=Ev.of_own h
 rw[hv] at e1
 injection e1 with e1 e2 e3
 subst e1
 have hx:ls[j]?=some ls[j]:=List.getElem?_eq_getElem hj
 obtain⟨b,off,e,hb,hc⟩:=hls j _ hx
 exact⟨_,b,off,e,hb,List.mem_of_getElem? hx,hc⟩
theorem xjr:okH ⟨12,0,0,0,[]⟩ .nil:=.inl ⟨rfl,rfl,.inr (.inl ⟨rfl,rfl,rfl⟩)⟩
theorem En {nm:Bt} (h:okN nm):okH ⟨13,0,0,0,nm⟩ .nil:=.inl ⟨rfl,rfl,.inl ⟨rfl,h,rfl⟩⟩
theorem Rz {z:Int} (h0:0<=z) (h1:z<=9223372036854775807):okH ⟨1,0,z,0,[]⟩ .nil:=.inr (.inl ⟨rfl,rfl,rfl,h0,h1,rfl⟩)
theorem Wb.nm {w:World} {gc gm:Nat} {M:Mk} {arr:Bool} {nm:Bt} (h:Wb M arr nm) (hM:Yg w gc gm M):okN nm:=by
 obtain⟨g,hg,rfl,_⟩:=h
 exact(hM.gok g hg).1
theorem Mx (gc gm d:Nat) (M:Mk) (w:World) (h:Yg w gc gm M):Calls Tryz.prog 153 #[.pointer (some ⟨gm,0,none⟩)] w (Ut gc gm d w):=by
 have hx:=ExW.start h
 have HL:Xq (gc<w.heap.size):=Xj (by have:=h.lt2;omega)
 have HP:=Xj (λ W (hW:Yg W gc gm M)=>Wf gc gm M false W hW)
 have HM:=Xj h
 go_enter Tryz.func153,Tryz.ntmps153
 go_upto_region 1 with fail
 obtain⟨w1,hw1⟩:∃ w1,w.alloc zex=w1:=⟨_,rfl⟩
 rw[hw1] at hx ⊢
 obtain⟨g,hg⟩:∃ g,w.heap.size=g:=⟨_,rfl⟩
 rw[hg] at hx HL ⊢
 have HX:=Xj hx
 have hqm:=hx.mkr.lt2
 have c0:=cell_of_row _ _ 0 _ _ _ hx.mkr.row
 clear hw1 hx h hg
 go_wp2_with fail
 refine(Yj gc 6 (by omega) _ HX.o.mkr.cod).mono ?_
 rintro e w2 ⟨x,rfl,x0,x1,hH,hg⟩
 have HX2:=Xj (HX.o.grown HL.o hg hH)
 clear c0 hH hg HX hqm
 clear w1
 go_upto_block 0 with fail
 go_cut [4,5] from 13 to 48 (λ v4 v5 wx=>Xq (ExW w gc gm M g wx))
 case first =>
  by_cases e0:x=0
  ·subst e0
   obtain⟨jl,f0,f1,f2,f3,f4,f5,c0,c1,c2,c3,c4,c5⟩:=HX2.o.cells
   go_wp2_with fail
   obtain⟨q0,q1,q2,q3,q4,q5,HF⟩:=HX2.o.fin HL.o (hd:=⟨12,0,0,0,[]⟩) (ar:=.nil) (sl:=.slice none 0 0) (d:=d) (Xk.nil _ _) (Zd.leaf xjr rfl rfl (.inr (.inr (.inl rfl))) d) _ rfl
   refine bodyPost_ret (v:=exv ⟨12,0,0,0,[]⟩ (.slice none 0 0)) (by simp[results,Tryz.results153,go_sem,q0,q1,q2,q3,q4,q5]) rfl ?_
   exact HF.o
  have d0:(x==0)=false:=by rw[beq_eq_false_iff_ne];exact e0
  by_cases e1:x=1
  ·subst e1
   clear d0
   go_wp2_with fail
   refine(HP.o _ HX2.o.mkr).mono ?_
   rintro e w3 ⟨nm,ok,rfl,hpk,hH,hg⟩
   have HX3:=Xj (HX2.o.grown HL.o hg hH)
   cases ok
   ·clear hpk hg hH
    go_wp2_with fail
    go_meet
    exact HX3
   have HOK:=Xj ((hpk rfl).nm HM.o)
   clear hpk hg hH
   obtain⟨jl,f0,f1,f2,f3,f4,f5,c0,c1,c2,c3,c4,c5⟩:=HX3.o.cells
   go_wp2_with fail
   obtain⟨q0,q1,q2,q3,q4,q5,HF⟩:=HX3.o.fin HL.o (hd:=⟨13,0,0,0,nm⟩) (ar:=.nil) (sl:=.slice none 0 0) (d:=d) (Xk.nil _ _) (Zd.leaf (En HOK.o) rfl rfl (.inr (.inl rfl)) d) _ rfl
   refine bodyPost_ret (v:=exv ⟨13,0,0,0,nm⟩ (.slice none 0 0)) (by simp[results,Tryz.results153,go_sem,q0,q1,q2,q3,q4,q5]) rfl ?_
   exact HF.o
  have d1:(x==1)=false:=by rw[beq_eq_false_iff_ne];exact e1
  by_cases e2:x=2\/x=3
  ·clear e0 e1 x0 x1
   rcases e2 with rfl|rfl
   ·clear d0 d1
    obtain⟨al,cl,hvl,hll,hzd,hvp,hls⟩:=Ev.of_own HX2.o.mkr.lo
    have hln:=HX2.o.mkr.ln
    have hjz:=HX2.o.mkr.row
    have HMB:Xq (gc<gm/\gm<g):=Xj ⟨HX2.o.mkr.lt,by rw[HX2.o.eg];exact Xv HM.o.row⟩
    rw[hvl] at hjz
    have c0:=cell_of_row _ _ 0 _ _ _ hjz
    have c3:=cell_of_row _ _ 3 _ _ _ hjz
    have hgm:=Xv hjz
    have HVL:=Xj hvl
    obtain⟨n,hn⟩:∃ n,M.ls.length=n:=⟨_,rfl⟩
    rw[hn] at c0 c3 hln hzd
    have HN:=Xj hn
    clear hn hjz hvl hll
    have HLS:=Xj hls
    clear hls
    by_cases hn0:n=0
    ·subst hn0
     clear HLS
     go_wp2_with fail
     go_meet
     exact HX2
    have hn1:(0:Int)<(n:Int):=by omega
    have dn:decide ((0:Int)<(n:Int))=true:=by rw[decide_eq_true_iff];exact hn1
    obtain⟨_,bl,ol,hal,hbl,_,_⟩:=Ev.get (j:=0) HM.o.lo HVL.o (by rw[HN.o];omega)
    subst hal
    have HBL:Xq (bl<g/\gc<bl):=Xj ⟨by rw[HX2.o.eg];exact hbl,by
     have:=(HX2.o.mkr.lo.lt bl (by rw[HVL.o];rfl)).1
     have:=HMB.o;omega⟩
    clear hbl
    have HRW:Xq (∀ W,w2.grownBy W (some gc)->W.cell? ⟨gm,0,none⟩=some (.pointer (some ⟨gc,0,none⟩))/\W.cell? ⟨gm,3,none⟩=some (.slice (some ⟨bl,ol,none⟩) n cl)/\∀ j x,M.ls[j]?=some x->W.cell? ⟨bl,ol+j,none⟩=some (.string (st x))):=Xj (λ W hW=>⟨hW.cell c0 (by simp;have:=HMB.o;omega),hW.cell c3 (by simp;have:=HMB.o;omega),λ j x hj=>by
     obtain⟨b',o',e1,_,hc⟩:=HLS.o j x hj
     injection e1 with e1
     injection e1 with e1 e2
     subst e1 e2
     exact hW.cell hc (by simp;have:=HBL.o;omega)⟩)
    go_upto_region 12 with fail
    refine wp_region_held_drew (S:=(λ w'=>w'.cell? ⟨gm,0,none⟩=some (.pointer (some ⟨gc,0,none⟩))/\w'.cell? ⟨gm,3,none⟩=some (.slice (some ⟨bl,ol,none⟩) n cl)/\∀ j x,M.ls[j]?=some x->w'.cell? ⟨bl,ol+j,none⟩=some (.string (st x)))) (by kernel_rfl) (HRW.o _ (Xr w2 1 _)) (λ hJ=>?_)
    refine tkH 0 35 ?_
    refine tkH 1 36 ?_
    refine tkH 2 37 ?_
    refine tkH 3 38 ?_
    refine tkH 4 39 ?_
    refine tkH 5 40 ?_
    refine tkH 6 41 ?_
    refine tkH 7 42 ?_
    refine tkH 8 43 ?_
    refine tkH 9 44 ?_
    refine rdH 10 λ K hK=>?_
    go_simp
    refine(Yj gc n (by omega) _ HX2.o.mkr.cod.drew).mono ?_
    rintro e wy ⟨y,rfl,y0,y1,hH,hg0⟩
    obtain⟨y,rfl⟩:=Int.eq_ofNat_of_zero_le y0
    have y2:y<n:=by omega
    have hg:=Xp (Xr w2 1 (some gc)) hg0
    clear hg0
    have HX3:=Xj (HX2.o.grown HL.o hg hH)
    refine goH hK (HRW.o _ hg) λ hJ=>?_
    clear hK K
    have hy3:(y:Int)<(n:Int):=by omega
    obtain⟨nm,hnm⟩:∃ nm,M.ls[y]?=some nm:=⟨_,List.getElem?_eq_getElem (by rw[HN.o];exact y2)⟩
    have HNM:Xq (okN nm):=Xj (HX3.o.mkr.lok nm (List.mem_of_getElem? hnm))
    clear hg hH y1
    refine tkH 11 46 ?_
    refine Xh (i:=12) (d:=some 47) (v:=.string (st nm)) rfl (by kernel_rfl) (by kernel_rfl) (by kernel_rfl) (by kernel_rfl) (λ _ _ _ h=>h) (Or.inl ⟨by kernel_rfl,?_⟩) (by assumption) ?_
    ·(intro w hSw;have hcx:=hSw.2.2 y nm hnm;go_simp;try with_reducible rfl)
    refine Xz ?_
    refine tkH 13 48 ?_
    obtain⟨jl,f0,f1,f2,f3,f4,f5,r0,r1,r2,r3,r4,r5⟩:=HX3.o.cells
    refine rdH 14 λ K hK=>?_
    go_simp
    refine goH hK ⟨Xy (by have:=HMB.o;omega) hJ.1,Xy (by have:=HMB.o;omega) hJ.2.1,λ j x hj=>Xy (by have:=HBL.o;omega) (hJ.2.2 j x hj)⟩ λ hJ=>?_
    clear hK K
    refine wpAnyH_done (by kernel_rfl) ?_ _
    go_wp2_with fail
    obtain⟨q0,q1,q2,q3,q4,q5,HF⟩:=HX3.o.fin HL.o (hd:=⟨13,0,0,0,nm⟩) (ar:=.nil) (sl:=.slice none 0 0) (d:=d) (Xk.nil _ _) (Zd.leaf (En HNM.o) rfl rfl (.inr (.inl rfl)) d) _ rfl
    refine bodyPost_ret (v:=exv ⟨13,0,0,0,nm⟩ (.slice none 0 0)) (by simp[results,Tryz.results153,go_sem,q0,q1,q2,q3,q4,q5]) rfl ?_
    exact HF.o
   clear d0 d1
   obtain⟨al,cl,hvl,hll,hzd,hvp,hls⟩:=Ev.of_own HX2.o.mkr.lo
   have hln:=HX2.o.mkr.ln
   have hjz:=HX2.o.mkr.row
   have HMB:Xq (gc<gm/\gm<g):=Xj ⟨HX2.o.mkr.lt,by rw[HX2.o.eg];exact Xv HM.o.row⟩
   rw[hvl] at hjz
   have c0:=cell_of_row _ _ 0 _ _ _ hjz
   have c3:=cell_of_row _ _ 3 _ _ _ hjz
   have hgm:=Xv hjz
   have HVL:=Xj hvl
   obtain⟨n,hn⟩:∃ n,M.ls.length=n:=⟨_,rfl⟩
   rw[hn] at c0 c3 hln hzd
   have HN:=Xj hn
   clear hn hjz hvl hll
   have HLS:=Xj hls
   clear hls
   by_cases hn0:n=0
   ·subst hn0
    clear HLS
    go_wp2_with fail
    go_meet
    exact HX2
   have hn1:(0:Int)<(n:Int):=by omega
   have dn:decide ((0:Int)<(n:Int))=true:=by rw[decide_eq_true_iff];exact hn1
   obtain⟨_,bl,ol,hal,hbl,_,_⟩:=Ev.get (j:=0) HM.o.lo HVL.o (by rw[HN.o];omega)
   subst hal
   have HBL:Xq (bl<g/\gc<bl):=Xj ⟨by rw[HX2.o.eg];exact hbl,by
    have:=(HX2.o.mkr.lo.lt bl (by rw[HVL.o];rfl)).1
    have:=HMB.o;omega⟩
   clear hbl
   have HRW:Xq (∀ W,w2.grownBy W (some gc)->W.cell? ⟨gm,0,none⟩=some (.pointer (some ⟨gc,0,none⟩))/\W.cell? ⟨gm,3,none⟩=some (.slice (some ⟨bl,ol,none⟩) n cl)/\∀ j x,M.ls[j]?=some x->W.cell? ⟨bl,ol+j,none⟩=some (.string (st x))):=Xj (λ W hW=>⟨hW.cell c0 (by simp;have:=HMB.o;omega),hW.cell c3 (by simp;have:=HMB.o;omega),λ j x hj=>by
    obtain⟨b',o',e1,_,hc⟩:=HLS.o j x hj
    injection e1 with e1
    injection e1 with e1 e2
    subst e1 e2
    exact hW.cell hc (by simp;have:=HBL.o;omega)⟩)
   go_upto_region 12 with fail
   refine wp_region_held_drew (S:=(λ w'=>w'.cell? ⟨gm,0,none⟩=some (.pointer (some ⟨gc,0,none⟩))/\w'.cell? ⟨gm,3,none⟩=some (.slice (some ⟨bl,ol,none⟩) n cl)/\∀ j x,M.ls[j]?=some x->w'.cell? ⟨bl,ol+j,none⟩=some (.string (st x)))) (by kernel_rfl) (HRW.o _ (Xr w2 1 _)) (λ hJ=>?_)
   refine tkH 0 35 ?_
   refine tkH 1 36 ?_
   refine tkH 2 37 ?_
   refine tkH 3 38 ?_
   refine tkH 4 39 ?_
   refine tkH 5 40 ?_
   refine tkH 6 41 ?_
   refine tkH 7 42 ?_
   refine tkH 8 43 ?_
   refine tkH 9 44 ?_
   refine rdH 10 λ K hK=>?_
   go_simp
   refine(Yj gc n (by omega) _ HX2.o.mkr.cod.drew).mono ?_
   rintro e wy ⟨y,rfl,y0,y1,hH,hg0⟩
   obtain⟨y,rfl⟩:=Int.eq_ofNat_of_zero_le y0
   have y2:y<n:=by omega
   have hg:=Xp (Xr w2 1 (some gc)) hg0
   clear hg0
   have HX3:=Xj (HX2.o.grown HL.o hg hH)
   refine goH hK (HRW.o _ hg) λ hJ=>?_
   clear hK K
   have hy3:(y:Int)<(n:Int):=by omega
   obtain⟨nm,hnm⟩:∃ nm,M.ls[y]?=some nm:=⟨_,List.getElem?_eq_getElem (by rw[HN.o];exact y2)⟩
   have HNM:Xq (okN nm):=Xj (HX3.o.mkr.lok nm (List.mem_of_getElem? hnm))
   clear hg hH y1
   refine tkH 11 46 ?_
   refine Xh (i:=12) (d:=some 47) (v:=.string (st nm)) rfl (by kernel_rfl) (by kernel_rfl) (by kernel_rfl) (by kernel_rfl) (λ _ _ _ h=>h) (Or.inl ⟨by kernel_rfl,?_⟩) (by assumption) ?_
   ·(intro w hSw;have hcx:=hSw.2.2 y nm hnm;go_simp;try with_reducible rfl)
   refine Xz ?_
   refine tkH 13 48 ?_
   obtain⟨jl,f0,f1,f2,f3,f4,f5,r0,r1,r2,r3,r4,r5⟩:=HX3.o.cells
   refine rdH 14 λ K hK=>?_
   go_simp
   refine goH hK ⟨Xy (by have:=HMB.o;omega) hJ.1,Xy (by have:=HMB.o;omega) hJ.2.1,λ j x hj=>Xy (by have:=HBL.o;omega) (hJ.2.2 j x hj)⟩ λ hJ=>?_
   clear hK K
   refine wpAnyH_done (by kernel_rfl) ?_ _
   go_wp2_with fail
   obtain⟨q0,q1,q2,q3,q4,q5,HF⟩:=HX3.o.fin HL.o (hd:=⟨13,0,0,0,nm⟩) (ar:=.nil) (sl:=.slice none 0 0) (d:=d) (Xk.nil _ _) (Zd.leaf (En HNM.o) rfl rfl (.inr (.inl rfl)) d) _ rfl
   refine bodyPost_ret (v:=exv ⟨13,0,0,0,nm⟩ (.slice none 0 0)) (by simp[results,Tryz.results153,go_sem,q0,q1,q2,q3,q4,q5]) rfl ?_
   exact HF.o
  have d2:(x==2)=false:=by rw[beq_eq_false_iff_ne];omega
  have d3:(x==3)=false:=by rw[beq_eq_false_iff_ne];omega
  clear e0 e1 e2
  go_wp2_with fail
  go_meet
  exact HX2
 have HX:=hcut
 clear HX2 hcut
 go_wp2_with fail
 refine(Yj gc 5 (by omega) _ HX.o.mkr.cod).mono ?_
 rintro e w3 ⟨y,rfl,y0,y1,hH,hg⟩
 have HX3:=Xj (HX.o.grown HL.o hg hH)
 clear hg hH HX
 go_wp2_with fail
 refine(Yj gc 12 (by omega) _ HX3.o.mkr.cod).mono ?_
 rintro e w4 ⟨z,rfl,z0,z1,hH,hg⟩
 have HX4:=Xj (HX3.o.grown HL.o hg hH)
 have y2:y<5:=by omega
 clear hg hH HX3 y1
 by_cases ez:z=11
 ·subst ez
  clear z0 z1
  go_wp2_with fail
  have hb5:=Xw w4 (.cells #[.int .i64 9223372036854775807,.int .i64 2147483648,.int .i64 1000,.int .i64 64] 3)
  have hqv:=heap_alloc_new w4 (.cells #[.int .i64 9223372036854775807,.int .i64 2147483648,.int .i64 1000,.int .i64 64] 3)
  have HX5:=Xj (HX4.o.below hb5)
  have HNE:Xq (gc<w4.heap.size):=Xj (by have:=HX4.o.lts;have:=HL.o;omega)
  obtain⟨w5,hw5⟩:∃ w5,w4.alloc (.cells #[.int .i64 9223372036854775807,.int .i64 2147483648,.int .i64 1000,.int .i64 64] 3)=w5:=⟨_,rfl⟩
  obtain⟨g5,hg5⟩:∃ g5,w4.heap.size=g5:=⟨_,rfl⟩
  rw[hw5] at HX5 hqv ⊢
  rw[hg5] at hqv HNE ⊢
  clear hb5 hw5 hg5 HX4
  clear w4
  refine(Yj gc 4 (by omega) _ HX5.o.mkr.cod).mono ?_
  rintro e w6 ⟨z,rfl,z0,z1,hH,hg⟩
  have HX6:=Xj (HX5.o.grown HL.o hg hH)
  have hb6:=(hg.block g5 (Xv hqv) (λ e=>by injection e with e;have:=HNE.o;omega)).trans hqv
  clear hH hg hqv HX5
  clear w5
  have z2:z<4:=by omega
  obtain⟨z,rfl⟩:=Int.eq_ofNat_of_zero_le z0
  obtain⟨u,hu,hu0,hu1⟩:∃ u:Int,w6.cell? ⟨g5,z,none⟩=some (.int .i64 u)/\0<=u/\u<=9223372036854775807:=by
   rw[cell_of_row w6 g5 z _ _ _ hb6]
   have:z=0\/z=1\/z=2\/z=3:=by omega
   rcases this with rfl|rfl|rfl|rfl<;>exact⟨_,rfl,by omega,by omega⟩
  clear hb6 z1
  obtain⟨jl,f0,f1,f2,f3,f4,f5,c0,c1,c2,c3,c4,c5⟩:=HX6.o.cells
  go_wp2_with fail
  obtain⟨q0,q1,q2,q3,q4,q5,HF⟩:=HX6.o.fin HL.o (hd:=⟨1,0,u,0,[]⟩) (ar:=.nil) (sl:=.slice none 0 0) (d:=d) (Xk.nil _ _) (Zd.leaf (Rz hu0 hu1) rfl rfl (.inl rfl) d) _ rfl
  refine bodyPost_ret (v:=exv ⟨1,0,u,0,[]⟩ (.slice none 0 0)) (by simp[results,Tryz.results153,go_sem,q0,q1,q2,q3,q4,q5]) rfl ?_
  exact HF.o
 have dz:(z==11)=false:=by rw[beq_eq_false_iff_ne];exact ez
 obtain⟨jl,f0,f1,f2,f3,f4,f5,c0,c1,c2,c3,c4,c5⟩:=HX4.o.cells
 go_wp2_with fail
 obtain⟨q0,q1,q2,q3,q4,q5,HF⟩:=HX4.o.fin HL.o (hd:=⟨1,0,y,0,[]⟩) (ar:=.nil) (sl:=.slice none 0 0) (d:=d) (Xk.nil _ _) (Zd.leaf (Rz y0 (by omega)) rfl rfl (.inl rfl) d) _ rfl
 refine bodyPost_ret (v:=exv ⟨1,0,y,0,[]⟩ (.slice none 0 0)) (by simp[results,Tryz.results153,go_sem,q0,q1,q2,q3,q4,q5]) rfl ?_
 exact HF.o
def Kb (w:World) (b:Nat) (fs:List Fr):Prop:=∀ j f,fs[j]?=some f->w.cell? ⟨b,j*4,none⟩=some (.string (st f.nm))/\w.cell? ⟨b,j*4+1,none⟩=some (.int .i64 0)/\w.cell? ⟨b,j*4+2,none⟩=some (.slice f.pa f.pn f.pc)/\w.cell? ⟨b,j*4+3,none⟩=some (.slice f.ba f.bn f.bc)
theorem Kb.of_own {w:World} {base:Nat} {e:TypeId} {v:Value} {fs:List Fr} (h:w.ownsRow base e 4 v fs.length (frc fs)) (hn:0<fs.length) :
  ∃ b cap,v=.slice (some ⟨b,0,none⟩) fs.length cap/\fs.length<=cap/\cap<=maxLen/\base<=b/\b<w.heap.size/\Kb w b fs:=by
 have hne:frc fs≠[]:=λ e=>by have:=xqy fs;rw[e] at this;simp at this;omega
 obtain⟨g,cap,rfl,hb,hl,h1,h2,_,hc⟩:=Km h hne
 refine⟨g,cap,rfl,h1,h2,hb,hl,λ j f hj=>?_⟩
 obtain⟨g1,g2,g3,g4⟩:=xqu fs j f hj
 exact⟨hc _ _ g1,hc _ _ g2,hc _ _ g3,hc _ _ g4⟩
theorem Kb.kept {w w':World} {b:Nat} {fs:List Fr} (h:Kb w b fs) (hb:w'.heap[b]?=w.heap[b]?):Kb w' b fs:=λ j f hj=>by
 obtain⟨h1,h2,h3,h4⟩:=h j f hj
 exact⟨(World.cell?_of_block (a:=⟨b,j*4,none⟩) hb).trans h1,(World.cell?_of_block (a:=⟨b,j*4+1,none⟩) hb).trans h2,(World.cell?_of_block (a:=⟨b,j*4+2,none⟩) hb).trans h3,(World.cell?_of_block (a:=⟨b,j*4+3,none⟩) hb).trans h4⟩
theorem okH.nm13 {h:Hd} {ar:Fo} (k:okH h ar) (e:h.k=13):okN h.nm:=by
 rcases k with⟨_,_,k⟩|⟨_,k,_⟩|⟨_,_,k⟩
 ·rcases k with⟨_,k,_⟩|⟨k,_⟩|⟨k,_⟩|⟨k,_⟩|⟨k,_⟩|⟨k,_⟩|⟨k,_⟩
  ·exact k
  all_goals omega
 ·omega
 omega
def Px (gc gm d:Nat) (w:World) (e:Ending) (w':World):Prop:=Ut gc gm d w e w'/\∃ h sl,e=.returned (exv h sl)/\(h.k=9\/h.k=10)
abbrev Rp (f:Fr):Obj:=.cells #[.string (st f.nm),.int .i64 0,.slice f.pa f.pn f.pc,(.slice f.ba f.bn f.bc)] 63 (0,0)
theorem Ml (gc gm d:Nat) (M:Mk) (hpc:d<=1000) (HE:∀ W,Yg W gc gm M->Calls Tryz.prog 120 #[.pointer (some ⟨gm,0,none⟩),.int .i64 (d:Int)] W (Ut gc gm d W)) (w:World) (h:Yg w gc gm M):Calls Tryz.prog 123 #[.pointer (some ⟨gm,0,none⟩),.int .i64 ((d:Int)+1)] w (Px gc gm (d+1) w):=by
 have hx:=ExW.start h
 have HEX:=Xj HE
 clear HE
 have HL:Xq (gc<w.heap.size):=Xj (by have:=h.lt2;omega)
 have HM:=Xj h
 go_enter Tryz.func123,Tryz.ntmps123
 go_upto_region 1 with fail
 obtain⟨w1,hw1⟩:∃ w1,w.alloc zex=w1:=⟨_,rfl⟩
 rw[hw1] at hx ⊢
 obtain⟨g,hg⟩:∃ g,w.heap.size=g:=⟨_,rfl⟩
 rw[hg] at hx HL ⊢
 have HX:=Xj hx
 have HGM:Xq (gm<g):=Xj (by rw[<- hg];exact Xv h.row)
 clear hw1 hx h hg
 go_cut [5] from 11 to 28 (λ v5 wx=>∃ (g5:Nat) (f:Fr),v5=.pointer (some ⟨g5,0,none⟩)/\Xq (f∈M.fs)/\Xq (ExW w gc gm M g wx/\wx.heap[g5]?=some (Rp f)/\g<g5))
 case first =>
  have hjz:=HX.o.mkr.row
  have hfn1:=HX.o.mkr.fn1
  obtain⟨bf,cf,hvb,hyf,hwc,hwh,hwl,hfr⟩:=Kb.of_own HX.o.mkr.fn hfn1
  rw[hvb] at hjz
  have HBF:Xq (gc<bf/\bf<g):=Xj ⟨by have:=HX.o.mkr.lt;omega,by
   have:=(HM.o.fn.lt bf (by rw[hvb];rfl)).2
   have:=HX.o.eg;omega⟩
  have c0:=cell_of_row _ _ 0 _ _ _ hjz
  have c2:=cell_of_row _ _ 2 _ _ _ hjz
  have HMB:Xq (gc<gm):=Xj HX.o.mkr.lt
  have hn4:=HX.o.mkr.fn2
  obtain⟨n,hn⟩:∃ n,M.fs.length=n:=⟨_,rfl⟩
  rw[hn] at c0 c2 hyf hn4 hfn1
  have HN:=Xj hn
  have HFR:=Xj hfr
  clear hn hjz hvb hfr hwh hwl
  have HRW:Xq (∀ W,w1.grownBy W (some gc)->W.cell? ⟨gm,0,none⟩=some (.pointer (some ⟨gc,0,none⟩))/\W.cell? ⟨gm,2,none⟩=some (.slice (some ⟨bf,0,none⟩) n cf)/\Kb W bf M.fs):=Xj (λ W hW=>⟨hW.cell c0 (by simp;have:=HMB.o;omega),hW.cell c2 (by simp;have:=HMB.o;omega),HFR.o.kept (hW.block bf (by have:=HBF.o;have:=HX.o.lts;omega) (by simp;have:=HBF.o;omega))⟩)
  refine wp_region_held_drew (S:=(λ w'=>w'.cell? ⟨gm,0,none⟩=some (.pointer (some ⟨gc,0,none⟩))/\w'.cell? ⟨gm,2,none⟩=some (.slice (some ⟨bf,0,none⟩) n cf)/\Kb w' bf M.fs)) (by kernel_rfl) (HRW.o _ (Xr w1 1 _)) (λ hJ=>?_)
  refine tkH 0 11 ?_
  refine tkH 1 12 ?_
  refine tkH 2 13 ?_
  refine tkH 3 14 ?_
  refine tkH 4 15 ?_
  refine tkH 5 16 ?_
  refine tkH 6 17 ?_
  refine tkH 7 18 ?_
  refine tkH 8 19 ?_
  refine tkH 9 20 ?_
  refine tkH 10 21 ?_
  refine tkH 11 22 ?_
  refine tkH 12 23 ?_
  refine tkH 13 24 ?_
  refine tkH 14 25 ?_
  refine wpAnyH_ready (rs:=[15,18]) (by kernel_rfl) (by simp) ?_
  refine AllReadyH.cons rfl (λ K hK=>?_) (AllReadyH.cons rfl (λ K hK=>?_) AllReadyH.nil)
  ·go_simp
   refine(Yj gc n (by omega) _ HX.o.mkr.cod.drew).mono ?_
   rintro e wy ⟨y,rfl,y0,y1,hH,hg0⟩
   obtain⟨y,rfl⟩:=Int.eq_ofNat_of_zero_le y0
   have y2:y<n:=by omega
   have hy3:(y:Int)<(n:Int):=by omega
   obtain⟨f,hf⟩:∃ f,M.fs[y]?=some f:=⟨_,List.getElem?_eq_getElem (by rw[HN.o];exact y2)⟩
   have HF:Xq (f∈M.fs):=Xj (List.mem_of_getElem? hf)
   have hg:=Xp (Xr w1 1 (some gc)) hg0
   clear hg0
   have HX3:=Xj (HX.o.grown HL.o hg hH)
   refine goH hK (HRW.o _ hg) λ hJ=>?_
   clear hK K y1 hH
   refine tkH 16 27 ?_
   refine Xh (i:=17) (d:=some 28) (v:=.agg #[.string (st f.nm),.int .i64 0,.slice f.pa f.pn f.pc,(.slice f.ba f.bn f.bc)]) rfl (by kernel_rfl) (by kernel_rfl) (by kernel_rfl) (by kernel_rfl) (λ _ _ _ h=>h) (Or.inl ⟨by kernel_rfl,?_⟩) (by assumption) ?_
   ·(intro w hSw;obtain⟨p0,p1,p2,p3⟩:=hSw.2.2 y f hf;go_simp;try with_reducible rfl)
   refine Xz ?_
   refine rdH 18 λ K hK=>?_
   go_simp
   have hg2:=Xp hg (Xm (Xw wy (.cells #[.string { data := #[] },.int .i64 0,.slice none 0 0,.slice none 0 0] 63)) (some gc))
   refine goH hK (HRW.o _ hg2) λ hJ=>?_
   clear hK K
   have hb5:=heap_alloc_new wy (.cells #[.string { data := #[] },.int .i64 0,.slice none 0 0,.slice none 0 0] 63)
   have HX4:=Xj (HX3.o.below (Xw wy (.cells #[.string { data := #[] },.int .i64 0,.slice none 0 0,.slice none 0 0] 63)))
   have HG5:Xq (g<wy.heap.size):=Xj HX3.o.lts
   obtain⟨w5,hw5⟩:∃ w5,wy.alloc (.cells #[.string { data := #[] },.int .i64 0,.slice none 0 0,.slice none 0 0] 63)=w5:=⟨_,rfl⟩
   obtain⟨g5,hg5⟩:∃ g5,wy.heap.size=g5:=⟨_,rfl⟩
   rw[hw5] at hb5 HX4 hg2 hJ ⊢
   rw[hg5] at hb5 HG5 ⊢
   clear hw5 hg5 hg HX3
   obtain⟨p0,p1,p2,p3⟩:=Ex hb5
   obtain⟨jl,s0,s1,s2,s3⟩:=xzm hb5
   refine rdH 19 λ K hK=>?_
   go_simp
   refine goH hK ⟨Xs (b:=g5) (b':=gm) (by have:=HG5.o;have:=HGM.o;omega) hJ.1,Xs (b:=g5) (b':=gm) (by have:=HG5.o;have:=HGM.o;omega) hJ.2.1,hJ.2.2.kept (Gy bf (by have:=HG5.o;have:=HBF.o;omega))⟩ λ hJ=>?_
   clear hK K
   refine wpAnyH_done (by kernel_rfl) ?_ _
   go_wp2_with fail
   go_meet
   exact⟨g5,f,rfl,HF,Xj ⟨HX4.o.set4 HL.o HGM.o HG5.o HM.o,Yt hb5,HG5.o⟩⟩
  go_simp
  have hb5:=heap_alloc_new w1 (.cells #[.string { data := #[] },.int .i64 0,.slice none 0 0,.slice none 0 0] 63)
  have hg1:=Xp (Xm (Xw w1 (.cells #[.string { data := #[] },.int .i64 0,.slice none 0 0,.slice none 0 0] 63)) (some gc)) (Xr (w1.alloc (.cells #[.string { data := #[] },.int .i64 0,.slice none 0 0,.slice none 0 0] 63)) 1 (some gc))
  refine goH hK (HRW.o _ hg1) λ hJ=>?_
  clear hK K
  have HX3:=Xj (HX.o.grown HL.o hg1 ((HX.o.mkr.cod.alloc (.cells #[.string { data := #[] },.int .i64 0,.slice none 0 0,.slice none 0 0] 63)).drew))
  have HG5:Xq (g<w1.heap.size):=Xj HX.o.lts
  obtain⟨w5,hw5⟩:∃ w5,(w1.alloc (.cells #[.string { data := #[] },.int .i64 0,.slice none 0 0,.slice none 0 0] 63)).drew=w5:=⟨_,rfl⟩
  obtain⟨g5,hg5⟩:∃ g5,w1.heap.size=g5:=⟨_,rfl⟩
  have hb6:w5.heap[g5]?=some (.cells #[.string { data := #[] },.int .i64 0,.slice none 0 0,.slice none 0 0] 63 (0,0)):=by rw[<- hw5,<- hg5];exact hb5
  clear hb5
  have hb5:=hb6
  clear hb6
  rw[show (w1.alloc (.cells #[.string { data := #[] },.int .i64 0,.slice none 0 0,.slice none 0 0] 63)).drewN 1=w5 from hw5] at HX3 hg1
  rw[hw5] at hJ ⊢
  rw[hg5] at HG5
  (try rw[hg5])
  clear hw5 hg5
  refine rdH 15 λ K hK=>?_
  go_simp
  refine(Yj gc n (by omega) _ HX3.o.mkr.cod).mono ?_
  rintro e wy ⟨y,rfl,y0,y1,hH,hg0⟩
  obtain⟨y,rfl⟩:=Int.eq_ofNat_of_zero_le y0
  have y2:y<n:=by omega
  have hy3:(y:Int)<(n:Int):=by omega
  obtain⟨f,hf⟩:∃ f,M.fs[y]?=some f:=⟨_,List.getElem?_eq_getElem (by rw[HN.o];exact y2)⟩
  have HF:Xq (f∈M.fs):=Xj (List.mem_of_getElem? hf)
  have hg:=Xp hg1 hg0
  have hb6:=(hg0.block g5 (Xv hb5) (by simp;have:=HG5.o;have:=HL.o;omega)).trans hb5
  have HX4:=Xj (HX3.o.grown HL.o hg0 hH)
  refine goH hK (HRW.o _ hg) λ hJ=>?_
  clear hK K y1 hH hg0 hb5
  have hb5:=hb6
  clear hb6
  refine tkH 16 27 ?_
  refine Xh (i:=17) (d:=some 28) (v:=.agg #[.string (st f.nm),.int .i64 0,.slice f.pa f.pn f.pc,(.slice f.ba f.bn f.bc)]) rfl (by kernel_rfl) (by kernel_rfl) (by kernel_rfl) (by kernel_rfl) (λ _ _ _ h=>h) (Or.inl ⟨by kernel_rfl,?_⟩) (by assumption) ?_
  ·(intro w hSw;obtain⟨p0,p1,p2,p3⟩:=hSw.2.2 y f hf;go_simp;try with_reducible rfl)
  refine Xz ?_
  obtain⟨p0,p1,p2,p3⟩:=Ex hb5
  obtain⟨jl,s0,s1,s2,s3⟩:=xzm hb5
  refine rdH 19 λ K hK=>?_
  go_simp
  refine goH hK ⟨Xs (b:=g5) (b':=gm) (by have:=HG5.o;have:=HGM.o;omega) hJ.1,Xs (b:=g5) (b':=gm) (by have:=HG5.o;have:=HGM.o;omega) hJ.2.1,hJ.2.2.kept (Gy bf (by have:=HG5.o;have:=HBF.o;omega))⟩ λ hJ=>?_
  clear hK K
  refine wpAnyH_done (by kernel_rfl) ?_ _
  go_wp2_with fail
  go_meet
  exact⟨g5,f,rfl,HF,Xj ⟨HX4.o.set4 HL.o HGM.o HG5.o HM.o,Yt hb5,HG5.o⟩⟩
 obtain⟨g5,f,rfl,HF,HY⟩:=hcut
 clear HX
 have hpn:=(HM.o.fok f HF.o).2
 have HKP:Xq (∀ wx wy:World,ExW w gc gm M g wx/\wx.heap[g5]?=some (Rp f)/\g<g5->wx.grownBy wy (some gc)->Cod wy gc->ExW w gc gm M g wy/\wy.heap[g5]?=some (Rp f)/\g<g5):=Xj (λ wx wy h hg hc=>⟨h.1.grown HL.o hg hc,(hg.block g5 (Xv h.2.1) (by simp;have:=HL.o;omega)).trans h.2.1,h.2.2⟩)
 have HC0:Xq (∀ wx:World,ExW w gc gm M g wx->wx.cell? ⟨gm,0,none⟩=some (.pointer (some ⟨gc,0,none⟩))):=Xj (λ wx h=>cell_of_row _ _ 0 _ _ _ h.mkr.row)
 obtain⟨p0,p1,p2,p3⟩:=Ex HY.o.2.1
 have c0:=HC0.o _ HY.o.1
 go_wp2_with fail
 refine(Yj gc 3 (by omega) _ HY.o.1.mkr.cod).mono ?_
 rintro e w2 ⟨x,rfl,x0,x1,hH,hg⟩
 have HY2:=Xj (HKP.o _ _ HY.o hg hH)
 clear p0 p1 p2 p3 c0 hH hg HY x0 x1
 clear wc
 go_upto_region 4 with fail
 obtain⟨bv,hbv⟩:∃ b,(x==2)=b:=⟨_,rfl⟩
 rw[hbv]
 clear hbv
 go_cut [46] from 38 to 46 (λ v46 wx=>∃ b46,v46=.bool b46/\Xq (ExW w gc gm M g wx/\wx.heap[g5]?=some (Rp f)/\g<g5))
 case first =>
  cases bv
  ·go_wp2_with fail
   go_meet
   exact⟨false,rfl,HY2⟩
  have c0:=HC0.o _ HY2.o.1
  go_wp2_with fail
  refine(Yj gc 8 (by omega) _ HY2.o.1.mkr.cod).mono ?_
  rintro e w3 ⟨y,rfl,y0,y1,hH,hg⟩
  have HY3:=Xj (HKP.o _ _ HY2.o hg hH)
  clear hH hg c0
  obtain⟨b7,hb7⟩:∃ b,(y==7)=b:=⟨_,rfl⟩
  go_wp2_with fail
  go_meet
  exact⟨b7,by rw[<- hb7],HY3⟩
 case rest =>
 clear HY2
 clear w2
 obtain⟨b46,rfl,HY2⟩:=hcut
 go_upto_if 46 with fail
 go_cut [6] from 47 to 51 (λ v6 wx=>∃ n:Nat,v6=.int .i64 n/\n<=2/\Xq (ExW w gc gm M g wx/\wx.heap[g5]?=some (Rp f)/\g<g5))
 case first =>
  cases b46
  ·go_wp2_with fail
   go_meet
   exact⟨f.pn,rfl,hpn,HY2⟩
  have c0:=HC0.o _ HY2.o.1
  go_wp2_with fail
  refine(Yj gc 3 (by omega) _ HY2.o.1.mkr.cod).mono ?_
  rintro e w4 ⟨z,rfl,z0,z1,hH,hg⟩
  have HY4:=Xj (HKP.o _ _ HY2.o hg hH)
  clear hH hg c0
  obtain⟨z,rfl⟩:=Int.eq_ofNat_of_zero_le z0
  go_wp2_with fail
  go_meet
  exact⟨z,rfl,by omega,HY4⟩
 clear HY2
 obtain⟨n,rfl,hn2,HY⟩:=hcut
 obtain⟨i0,hi0,hz0,hz1,hz2⟩:=info_parts Tryz.infoExpr
 have HI:=Xj hi0
 have HZ0:=Xj hz0
 have HZ1:=Xj hz1
 have HZ2:=Xj hz2
 clear hi0 hz0 hz1 hz2
 go_upto_block 0 with fail
 go_wp2_with fail
 go_loopw [8,9] (λ v8 v9 wr=>∃ (i:Nat) (F:Fo) (xs:List Value),v9=.int .i64 i/\i<=n/\Xq (F.len=i/\Qv d F/\(ExW w gc gm M g wr/\wr.heap[g5]?=some (Rp f)/\g<g5)/\wr.ownsRow (g5+1) 37 6 v8 i xs/\Zb wr (λ b=>g5<b/\some b≠v8.ownBlock) F xs)) (λ _ v9 _=>n-(intOf v9).toNat)
 case atStart=>exact⟨0,.nil,[],rfl,by omega,Xj ⟨rfl,Qv.nil d,HY.o,World.ownsRow_nil _ _ _ _,rfl⟩⟩
 clear HY
 obtain⟨i,F,xs,rfl,hi,HR⟩:=hrel
 by_cases hlt:i<n
 ·go_wp2_with fail
  refine(HEX.o _ HR.o.2.2.1.1.mkr).mono ?_
  rintro e w2 ⟨h,ar,sl,rfl,ha,hE,hH,hg⟩
  have HA:=Xj ha
  have HE:=Xj hE
  have HW2:=Xj (HKP.o _ _ HR.o.2.2.1 hg hH)
  have HG:=Xj hg
  obtain⟨aa,ca,rws,hsl,_⟩:=ha
  clear hE hH hg
  rw[hsl] at HA ⊢
  clear hsl
  have HOA:=Xj ((Yx HR.o.2.2.2.1 HG.o (by have:=HL.o;have:=HR.o.2.2.1.2.2;omega)).alloc (.cells #[.int .i64 h.k,.int .i64 h.op,.int .i64 h.v,.int .i64 h.ln,.string (st h.nm),.slice aa ar.len ca] 37))
  have HWA:=Xj (HW2.o.1.below (Xw w2 (.cells #[.int .i64 h.k,.int .i64 h.op,.int .i64 h.v,.int .i64 h.ln,.string (st h.nm),.slice aa ar.len ca] 37)))
  have hsb:g5+1<=w2.heap.size+1:=by have:=Xv HW2.o.2.1;omega
  go_wp2_with (at_builtin;refine wpList_append_lies _ rfl _ _ _ rfl (g5+1) 37 i0 _ 6 72 Tryz.underlying35 HI.o HZ0.o HZ1.o HZ2.o rfl (by omega) _ _ _ rfl HOA.o ⟨w2.heap.size,0,none⟩ 1 1 (hdc h (.slice aa ar.len ca)) rfl rfl (World.news_of_block (cs:=(hdc h (.slice aa ar.len ca)).toArray) (t:=37) (fr:=(0,0)) (heap_alloc_new w2 _)) (by simp[Value.oneCell']) (by omega) (by unfold maxLen;omega) (by omega) (by simp;omega) _ rfl ?_;intro g9 c9 w9 hown9 hgrow9 hor9 hlt9;have HO9:=Xj hown9;have HG9:=Xj hgrow9;have HR9:=Xj hor9;clear hown9 hgrow9 hor9 hlt9)
  go_roundw
  case rel =>
   refine⟨i+1,F.app (Xb h ar),xs++hdc h (.slice aa ar.len ca),by go_num,by omega,Xj ⟨by rw[Fo.len_app,HR.o.1];rfl,Qv.snoc HR.o.2.1 HE.o,?_,HO9.o,?_⟩⟩
   ·have hg59:w9.heap[g5]?=some (Rp f):=by
     rw[HG9.o.block g5 (by have:=Xv HW2.o.2.1;simp;omega) (λ e=>by have:=(HR.o.2.2.2.1.lt g5 e.symm).1;omega),Below.heap_alloc w2 _ g5 (Xv HW2.o.2.1)]
     exact HW2.o.2.1
    refine⟨?_,hg59,HW2.o.2.2⟩
    exact HWA.o.own HG9.o (λ k hk=>by have:=(HR.o.2.2.2.1.lt k hk).1;have:=HW2.o.2.2;omega) HM.o HL.o
   exact xqb HR.o.2.2.2.2 HR.o.2.2.2.1 HG.o (by have:=HL.o;have:=HW2.o.2.2;omega) (Xv HR.o.2.2.1.2.1) HA.o HG9.o HR9.o
  simp[intOf];omega
 obtain rfl:i=n:=by omega
 have HJ:=HR.o.1
 obtain⟨aF,cF,rF,hvF,hF1,hF2,hF3,hF4,hF5⟩:=Xk.of_own (e:=37) (size:=6) (P:=λ b=>g<b) (F:=F) (by rw[HR.o.1];exact HR.o.2.2.2.1) (HR.o.2.2.2.2.keep (λ b hb _=>⟨rfl,by have:=HR.o.2.2.1.2.2;omega⟩) (Nat.le_refl _)) (λ b hb=>by have:=(HR.o.2.2.2.1.lt b hb).1;have:=HR.o.2.2.1.2.2;omega)
 have HAF:Xq (Xk wr (λ b=>g<b) F u8):=Xj ⟨aF,cF,rF,hvF,hF1,hF2,hF3,hF4,hF5⟩
 clear hF1 hF3 hF4 hF5
 subst hvF
 have HOK:=Xj (HM.o.fok f HF.o).1
 have hiL:i=F.len:=HJ.symm
 clear HJ
 subst hiL
 cases bv
 ·obtain⟨p0,p1,p2,p3⟩:=Ex HR.o.2.2.1.2.1
  obtain⟨jl,f0,f1,f2,f3,f4,f5,r0,r1,r2,r3,r4,r5⟩:=HR.o.2.2.1.1.cells
  go_wp2_with fail
  obtain⟨q0,q1,q2,q3,q4,q5,HFN⟩:=HR.o.2.2.1.1.fin HL.o (hd:=⟨9,0,0,0,f.nm⟩) (ar:=F) (sl:=(.slice aF F.len cF)) (d:=d+1) HAF.o (Zd.up (.inl ⟨rfl,rfl,.inr (.inr (.inr (.inr (.inr (.inl ⟨rfl,HOK.o,by omega⟩)))))⟩) rfl HR.o.2.1 (by omega)) _ rfl
  refine bodyPost_ret (v:=exv ⟨9,0,0,0,f.nm⟩ (.slice aF F.len cF)) (by simp[results,Tryz.results123,go_sem,q0,q1,q2,q3,q4,q5]) rfl ?_
  exact⟨HFN.o,_,_,rfl,.inl rfl⟩
 obtain⟨p0,p1,p2,p3⟩:=Ex HR.o.2.2.1.2.1
 have c0:=HC0.o _ HR.o.2.2.1.1
 have hgx:∀ W,W=wr.alloc (.cells #[.int .i64 11,.int .i64 0,.int .i64 0,.int .i64 0,.string (st f.nm),.slice none 0 0] 37)->Xq (ExW w gc gm M g W/\W.heap[wr.heap.size]?=some (.cells #[.int .i64 11,.int .i64 0,.int .i64 0,.int .i64 0,.string (st f.nm),.slice none 0 0] 37 (0,0))/\W.ownsRow (g5+1) 37 6 (.slice aF F.len cF) F.len xs/\Zb W (λ b=>g5<b/\b≠wr.heap.size) F xs/\g5<wr.heap.size):=λ W hW=>by
  subst hW
  exact Xj ⟨HR.o.2.2.1.1.below (Xw _ _),heap_alloc_new _ _,HR.o.2.2.2.1.alloc _,HR.o.2.2.2.2.keep (λ b hb hlt=>⟨Below.heap_alloc wr _ b hlt,hb.1,by omega⟩) (by simp),Xv HR.o.2.2.1.2.1⟩
 go_upto_region 14 with fail
 obtain⟨wA,hwA⟩:∃ wA,wr.alloc (.cells #[.int .i64 11,.int .i64 0,.int .i64 0,.int .i64 0,.string (st f.nm),.slice none 0 0] 37)=wA:=⟨_,rfl⟩
 have HA:=hgx wA hwA.symm
 rw[hwA]
 obtain⟨gt,hgt⟩:∃ gt,wr.heap.size=gt:=⟨_,rfl⟩
 rw[hgt] at HA ⊢
 have HOB:Xq (∀ k,(Value.slice aF F.len cF).ownBlock=some k->k<gt):=Xj (λ k hk=>by rw[<- hgt];exact(HR.o.2.2.2.1.lt k hk).2)
 clear hgx hwA hgt p0 p1 p2 p3 c0
 have HGF:=Xj HR.o.2.1
 have HG5:Xq (g<g5):=Xj HR.o.2.2.1.2.2
 clear HR HAF
 clear wr
 have c0:=HC0.o _ HA.o.1
 go_wp2_with fail
 refine(Yj gc 4 (by omega) _ HA.o.1.mkr.cod).mono ?_
 rintro e wB ⟨x,rfl,x0,x1,hH,hg⟩
 have HB:Xq (ExW w gc gm M g wB/\wB.heap[gt]?=some (.cells #[.int .i64 11,.int .i64 0,.int .i64 0,.int .i64 0,.string (st f.nm),.slice none 0 0] 37 (0,0))/\wB.ownsRow (g5+1) 37 6 (.slice aF F.len cF) F.len xs/\Zb wB (λ b=>g5<b/\b≠gt) F xs/\g5<gt):=Xj ⟨HA.o.1.grown HL.o hg hH,(hg.block gt (Xv HA.o.2.1) (by simp;have:=HL.o;have:=HA.o.2.2.2.2;have:=HG5.o;omega)).trans HA.o.2.1,Yx HA.o.2.2.1 hg (by have:=HL.o;have:=HG5.o;omega),HA.o.2.2.2.1.keep (λ b hb hlt=>⟨hg.block b hlt (by simp;have:=HL.o;have:=HG5.o;omega),hb⟩) hg.size,HA.o.2.2.2.2⟩
 clear hH hg c0 x0 x1 HA
 clear wA
 go_upto_if 78 with fail
 obtain⟨b3,hb3⟩:∃ b,(x==3)=b:=⟨_,rfl⟩
 rw[hb3]
 clear hb3
 go_cut [] from 79 to 82 (λ wx=>∃ (hd:Hd) (ar:Fo) (sa:Option Addr) (sc:Nat),Xq (Zd d hd ar/\Xk wx (λ b=>g5<b/\b≠gt) ar (.slice sa ar.len sc)/\ExW w gc gm M g wx/\wx.heap[gt]?=some (.cells #[.int .i64 hd.k,.int .i64 hd.op,.int .i64 hd.v,.int .i64 hd.ln,.string (st hd.nm),.slice sa ar.len sc] 37 (0,0))/\wx.ownsRow (g5+1) 37 6 (.slice aF F.len cF) F.len xs/\Zb wx (λ b=>g5<b/\b≠gt) F xs))
 case first =>
  cases b3
  ·go_wp2_with fail
   go_meet
   exact⟨⟨11,0,0,0,f.nm⟩,.nil,none,0,Xj ⟨Zd.leaf (.inl ⟨rfl,rfl,.inr (.inr (.inl ⟨rfl,HOK.o,rfl⟩))⟩) rfl rfl (.inr (.inr (.inr rfl))) d,Xk.nil _ _,HB.o.1,HB.o.2.1,HB.o.2.2.1,HB.o.2.2.2.1⟩⟩
  go_wp2_with fail
  refine(HEX.o _ HB.o.1.mkr).mono ?_
  rintro e wC ⟨h,ar,sl,rfl,ha,hE,hH,hg⟩
  have HA:=Xj ha
  have HE:=Xj hE
  obtain⟨aa,ca,rws,hsl,_⟩:=ha
  rw[hsl] at HA ⊢
  have hsz:=hg.size
  have hpf:=Xv HB.o.2.1
  have HC:Xq (ExW w gc gm M g wC/\wC.heap[gt]?=some (.cells #[.int .i64 11,.int .i64 0,.int .i64 0,.int .i64 0,.string (st f.nm),.slice none 0 0] 37 (0,0))/\wC.ownsRow (g5+1) 37 6 (.slice aF F.len cF) F.len xs/\Zb wC (λ b=>g5<b/\b≠gt) F xs):=Xj ⟨HB.o.1.grown HL.o hg hH,(hg.block gt hpf (by simp;have:=HL.o;have:=HB.o.2.2.2.2;have:=HG5.o;omega)).trans HB.o.2.1,Yx HB.o.2.2.1 hg (by have:=HL.o;have:=HG5.o;omega),HB.o.2.2.2.1.keep (λ b hb hlt=>⟨hg.block b hlt (by simp;have:=HL.o;have:=HG5.o;omega),hb⟩) hg.size⟩
  have HLT:Xq (gt<wB.heap.size/\g<gt/\g5<gt):=Xj ⟨hpf,by have:=HG5.o;have:=HB.o.2.2.2.2;omega,HB.o.2.2.2.2⟩
  clear hsl hE hH hg hsz hpf
  obtain⟨p0,p1,p2,p3,p4,p5⟩:=Xl HC.o.2.1
  have s0:=frozen_of_row _ gt 0 _ _ HC.o.2.1
  have s1:=frozen_of_row _ gt 1 _ _ HC.o.2.1
  have s2:=frozen_of_row _ gt 2 _ _ HC.o.2.1
  have s3:=frozen_of_row _ gt 3 _ _ HC.o.2.1
  have s4:=frozen_of_row _ gt 4 _ _ HC.o.2.1
  have s5:=frozen_of_row _ gt 5 _ _ HC.o.2.1
  have jl:=Xv HC.o.2.1
  go_wp2_with fail
  go_meet
  refine⟨h,ar,aa,ca,Xj ⟨HE.o,HA.o.keep (λ b hb _=>⟨Yq b ?_,?_,?_⟩) ?_,HC.o.1.set6 HLT.o.2.1 HM.o,Qy HC.o.2.1,HC.o.2.2.1.kept (Ux wC gt _ _ _ _ _ _) ?_,HC.o.2.2.2.keep (λ b hb _=>⟨Yq b hb.2,hb⟩) ?_⟩⟩
  ·have:=HLT.o;omega
  ·have:=HLT.o;omega
  ·have:=HLT.o;omega
  ·rw[Zz];exact Nat.le_refl _
  ·cases hq:(Value.slice aF F.len cF).ownBlock with
   | none=>exact .inl rfl
   | some q=>exact .inr (by simp;have:=HOB.o q hq;omega)
  rw[Zz];exact Nat.le_refl _
 obtain⟨hd,ar,sa,sc,HC⟩:=hcut
 have HLT:Xq (g<gt/\g5<gt):=Xj ⟨by have:=HG5.o;have:=HB.o.2.2.2.2;omega,HB.o.2.2.2.2⟩
 clear HB
 clear wB
 obtain⟨p0,p1,p2,p3,p4,p5⟩:=Xl HC.o.2.2.2.1
 obtain⟨jl,f0,f1,f2,f3,f4,f5,r0,r1,r2,r3,r4,r5⟩:=HC.o.2.2.1.cells
 have HAF:Xq (Xk wc (λ b=>g<b) F (.slice aF F.len cF)):=Xj (Xk.of_own (e:=37) (size:=6) HC.o.2.2.2.2.1 (HC.o.2.2.2.2.2.keep (λ b hb _=>⟨rfl,by have:=HG5.o;omega⟩) (Nat.le_refl _)) (λ b hb=>by have:=(HC.o.2.2.2.2.1.lt b hb).1;have:=HG5.o;omega))
 by_cases h13:hd.k=13
 ·have d13:(hd.k==13)=true:=by rw[h13];rfl
  have HNM:=Xj (HC.o.1.1.nm13 h13)
  clear h13
  go_wp2_with fail
  obtain⟨q0,q1,q2,q3,q4,q5,HFN⟩:=HC.o.2.2.1.fin HL.o (hd:=⟨9,0,0,0,hd.nm⟩) (ar:=F) (sl:=(.slice aF F.len cF)) (d:=d+1) HAF.o (Zd.up (.inl ⟨rfl,rfl,.inr (.inr (.inr (.inr (.inr (.inl ⟨rfl,HNM.o,by omega⟩)))))⟩) rfl HGF.o (by omega)) _ rfl
  refine bodyPost_ret (v:=exv ⟨9,0,0,0,hd.nm⟩ (.slice aF F.len cF)) (by simp[results,Tryz.results123,go_sem,q0,q1,q2,q3,q4,q5]) rfl ?_
  exact⟨HFN.o,_,_,rfl,.inl rfl⟩
 have d13:(hd.k==13)=false:=by rw[beq_eq_false_iff_ne];exact h13
 have H13:=Xj h13
 clear h13
 have hb1:=Xw wc (.cells #[.int .i64 hd.k,.int .i64 hd.op,.int .i64 hd.v,.int .i64 hd.ln,.string (st hd.nm),.slice sa ar.len sc] 37)
 have HOW:=Xj (xjf wc #[.int .i64 hd.k,.int .i64 hd.op,.int .i64 hd.v,.int .i64 hd.ln,.string (st hd.nm),.slice sa ar.len sc] (g5+1) 37 rfl (by have:=Xv HC.o.2.2.2.1;have:=HLT.o;omega))
 have HX1:=Xj (HC.o.2.2.1.below hb1)
 have HTR:Xq (Zb (wc.alloc (.cells #[.int .i64 hd.k,.int .i64 hd.op,.int .i64 hd.v,.int .i64 hd.ln,.string (st hd.nm),.slice sa ar.len sc] 37)) (λ b=>g5<b/\b<wc.heap.size) (.cons hd ar F) (hdc hd (.slice sa ar.len sc)++xs)):=Xj (Zb.app (G:=F) (Xk.one (HC.o.2.1.keep (λ b hb hlt=>⟨Below.heap_alloc wc _ b hlt,hb.1,hlt⟩) (by simp))) (HC.o.2.2.2.2.2.keep (λ b hb hlt=>⟨Below.heap_alloc wc _ b hlt,hb.1,hlt⟩) (by simp)))
 obtain⟨_,_,e1,hxl,hfc,hcm,hcel,_⟩:=Yd.of_own HC.o.2.2.2.2.1
 injection e1 with e1 e2 e3
 subst e1 e3
 have HXL:=Xj hxl
 have HNI:=Xj (Wh HC.o.2.2.2.2.1)
 have HCL:=Xj (hcel.below hb1)
 have HOC:=Xj (Zb.oneCell HC.o.2.2.2.2.2)
 clear hb1 hcel hxl e2
 unfold maxLen at hcm
 have hgl:g5+1<=wc.heap.size+1:=by have:=Xv HC.o.2.2.2.1;have:=HLT.o;omega
 go_wp2_with (at_builtin;refine Ud rfl _ _ _ rfl (g5+1) 37 i0 _ 6 72 Tryz.underlying35 HI.o HZ0.o HZ1.o HZ2.o rfl (by omega) _ _ _ rfl HOW.o _ _ _ xs rfl hfc HNI.o HXL.o HCL.o HOC.o (by unfold maxLen;omega) (by omega) (by simp;omega) ?_;intro v' w9 hown9 hgrow9;obtain⟨a9,c9,rfl,_⟩:=Yd.of_own hown9;have HO9:=Xj hown9;have HG9:=Xj hgrow9;clear hown9 hgrow9;have HX9:=Xj (HX1.o.own HG9.o (λ k hk=>by have:=(HOW.o.lt k hk).1;have:=HG5.o;omega) HM.o HL.o);obtain⟨jl,f0,f1,f2,f3,f4,f5,r0,r1,r2,r3,r4,r5⟩:=HX9.o.cells)
 have e9:1+F.len=(Fo.cons hd ar F).len:=by simp only[Fo.len];omega
 have HA9:Xq (Xk w9 (λ b=>g<b) (.cons hd ar F) (.slice a9 (1+F.len) c9)):=Xj (by
  have h9:=HO9.o
  rw[e9] at h9 ⊢
  refine Xk.of_own (e:=37) (size:=6) h9 (HTR.o.keep (λ b hb hlt=>⟨HG9.o.block b hlt (by show some b≠some wc.heap.size;simp;omega),by have:=HG5.o;omega⟩) HG9.o.size) (λ b hb=>by have:=(h9.lt b hb).1;have:=HG5.o;omega))
 obtain⟨q0,q1,q2,q3,q4,q5,HFN⟩:=HX9.o.fin HL.o (hd:=⟨10,0,0,0,[]⟩) (ar:=(.cons hd ar F)) (sl:=(.slice a9 (1+F.len) c9)) (d:=d+1) HA9.o (Zd.up (.inl ⟨rfl,rfl,.inr (.inr (.inr (.inr (.inr (.inr ⟨rfl,rfl,hd,ar,F,rfl,H13.o,by omega⟩)))))⟩) rfl (Qv.cons HGF.o HC.o.1) (by simp only[Fo.len];omega)) _ rfl
 refine bodyPost_ret (v:=exv ⟨10,0,0,0,[]⟩ (.slice a9 (1+F.len) c9)) (by simp[results,Tryz.results123,go_sem,q0,q1,q2,q3,q4,q5]) rfl ?_
 exact⟨HFN.o,_,_,rfl,.inr rfl⟩
def okS (k:Int) (nm:Bt) (xs:Fo) (th el:Sf):Prop :=
 ((k=1\/k=2)/\okN nm/\xs.len=1/\th=.nil/\el=.nil)\/(k=3/\okN nm/\xs.len=2/\th=.nil/\el=.nil)\/(k=4/\nm=[]/\xs.len=1)\/(k=5/\nm=[]/\xs.len=1/\el=.nil) \/
 ((k=6\/k=7)/\nm=[]/\xs.len=1/\th=.nil/\el=.nil)\/(k=8/\nm=[]/\th=.nil/\el=.nil/\∃ h ar,xs=Xb h ar/\(h.k=9\/h.k=10))
def Sf.wf:Sf->Prop
 | .nil=>True
 | .cons k ln nm xs th el r=>okS k nm xs th el/\ln=0/\xs.wf/\th.wf/\el.wf/\r.wf
def Sf.cst:Sf->Nat
 | .nil=>0
 | .cons _ _ _ xs th el r=>150+xs.cst+th.cst+el.cst+r.cst
def Sf.nst:Sf->Nat
 | .nil=>0
 | .cons _ _ _ _ th el r=>max (max th.nst el.nst+1) r.nst
def Sf.hgt:Sf->Nat
 | .nil=>0
 | .cons _ _ _ xs th el r=>max (max xs.dep (max th.hgt el.hgt)) r.hgt
theorem Sf.wf_app {F G:Sf} (h:F.wf) (k:G.wf):(F.app G).wf:=by
 induction F with
 | nil=>exact k
 | cons k ln nm xs th el r _ _ ih=>exact⟨h.1,h.2.1,h.2.2.1,h.2.2.2.1,h.2.2.2.2.1,ih h.2.2.2.2.2⟩
theorem Sf.cst_app (F G:Sf):(F.app G).cst=F.cst+G.cst:=by
 induction F with
 | nil=>simp[app,cst]
 | cons k ln nm xs th el r _ _ ih=>simp only[app,cst];omega
theorem Sf.nst_app (F G:Sf):(F.app G).nst=max F.nst G.nst:=by
 induction F with
 | nil=>simp[app,nst]
 | cons k ln nm xs th el r _ _ ih=>simp only[app,nst,ih];omega
theorem Sf.hgt_app (F G:Sf):(F.app G).hgt=max F.hgt G.hgt:=by
 induction F with
 | nil=>simp[app,hgt]
 | cons k ln nm xs th el r _ _ ih=>simp only[app,hgt,ih];omega
abbrev Zq (k ln:Int) (nm:Bt) (xs:Fo) (th el:Sf):Sf:=.cons k ln nm xs th el .nil
abbrev stc (k ln:Int) (nm:Bt) (slx slt sle:Value):List Value:=[.int .i64 k,.int .i64 ln,.string (st nm),slx,slt,sle]
def Zp (w:World) (P:Nat->Prop):Sf->List Value->Prop
 | .nil,cs=>cs=[]
 | .cons k ln nm xs th el r,cs=>∃ slx at_ ct rt ae ce re cs',cs=stc k ln nm slx (.slice at_ th.len ct) (.slice ae el.len ce)++cs'/\Xk w P xs slx /\
   th.len<=ct/\ct<=maxLen/\(at_=none->ct=0)/\Wj w P at_ rt/\Zp w P th rt /\
   el.len<=ce/\ce<=maxLen/\(ae=none->ce=0)/\Wj w P ae re/\Zp w P el re/\Zp w P r cs'
theorem Zp.keep {w w':World} {P Q:Nat->Prop} {F:Sf} {cs:List Value} (h:Zp w P F cs) (hk:∀ b,P b->b<w.heap.size->w'.heap[b]?=w.heap[b]?/\Q b) (hs:w.heap.size<=w'.heap.size):Zp w' Q F cs:=by
 induction F generalizing cs with
 | nil=>exact h
 | cons k ln nm xs th el r ih1 ih2 ih3 =>
  obtain⟨slx,at_,ct,rt,ae,ce,re,cs',rfl,h1,h2,h3,h4,h5,h6,h7,h8,h9,h10,h11,h12⟩:=h
  exact⟨slx,at_,ct,rt,ae,ce,re,cs',rfl,h1.keep hk hs,h2,h3,h4,h5.keep hk hs,ih1 h6,h7,h8,h9,h10.keep hk hs,ih2 h11,ih3 h12⟩
theorem Zp.app {w:World} {P:Nat->Prop} {F G:Sf} {cs ds:List Value} (h:Zp w P F cs) (k:Zp w P G ds):Zp w P (F.app G) (cs++ds):=by
 induction F generalizing cs with
 | nil=>rw[show cs=[] from h];exact k
 | cons k ln nm xs th el r _ _ ih =>
  obtain⟨slx,at_,ct,rt,ae,ce,re,cs',rfl,h1,h2,h3,h4,h5,h6,h7,h8,h9,h10,h11,h12⟩:=h
  exact⟨slx,at_,ct,rt,ae,ce,re,cs'++ds,by rw[List.append_assoc],h1,h2,h3,h4,h5,h6,h7,h8,h9,h10,h11,ih h12⟩
theorem Zp.len {w:World} {P:Nat->Prop} {F:Sf} {cs:List Value} (h:Zp w P F cs):cs.length=F.len*6:=by
 induction F generalizing cs with
 | nil=>rw[show cs=[] from h];rfl
 | cons k ln nm xs th el r _ _ ih =>
  obtain⟨slx,at_,ct,rt,ae,ce,re,cs',rfl,h1,h2,h3,h4,h5,h6,h7,h8,h9,h10,h11,h12⟩:=h
  rw[List.length_append,ih h12]
  show 6+_=(_+1)*6
  omega
def Xf (w:World) (P:Nat->Prop) (S:Sf) (sl:Value):Prop :=
 ∃ a cap rws,sl=.slice a S.len cap/\S.len<=cap/\cap<=maxLen/\(a=none->cap=0)/\Wj w P a rws/\Zp w P S rws
theorem Xf.nil (w:World) (P:Nat->Prop):Xf w P .nil (.slice none 0 0):=⟨none,0,[],rfl,Nat.le_refl _,by simp[maxLen],λ _=>rfl,λ h=>absurd rfl h,rfl⟩
theorem Xf.keep {w w':World} {P Q:Nat->Prop} {S:Sf} {sl:Value} (h:Xf w P S sl) (hk:∀ b,P b->b<w.heap.size->w'.heap[b]?=w.heap[b]?/\Q b) (hs:w.heap.size<=w'.heap.size):Xf w' Q S sl:=by
 obtain⟨a,cap,rws,e,h1,h2,h3,h4,h5⟩:=h
 exact⟨a,cap,rws,e,h1,h2,h3,h4.keep hk hs,h5.keep hk hs⟩
theorem Xf.of_own {w:World} {base e size:Nat} {P:Nat->Prop} {S:Sf} {v:Value} {xs:List Value} (h:w.ownsRow base e 6 v S.len xs) (hS:Zp w P S xs) (hP:∀ b,v.ownBlock=some b->P b):Xf w P S v:=by
 obtain⟨a,cap,rfl,h1,h2,h3,h4,_⟩:=Yd.of_own h
 refine⟨a,cap,xs,rfl,h2,h3,Wh h,λ hx=>?_,hS⟩
 obtain⟨b,off,e,hb,hc⟩:=h4 hx
 exact⟨b,off,e,hP b (by rw[e];rfl),hb,hc⟩
theorem Zp.one {w:World} {P:Nat->Prop} {k ln:Int} {nm:Bt} {xs:Fo} {th el:Sf} {slx slt sle:Value} (hx:Xk w P xs slx) (ht:Xf w P th slt) (he:Xf w P el sle):Zp w P (Zq k ln nm xs th el) (stc k ln nm slx slt sle):=by
 obtain⟨a,ca,ra,rfl,h1,h2,h3,h4,h5⟩:=ht
 obtain⟨b,cb,rb,rfl,k1,k2,k3,k4,k5⟩:=he
 exact⟨slx,a,ca,ra,b,cb,rb,[],by simp,hx,h1,h2,h3,h4,h5,k1,k2,k3,k4,k5,rfl⟩
abbrev stv (k ln:Int) (nm:Bt) (slx slt sle:Value):Value:=.agg #[.int .i64 k,.int .i64 ln,.string (st nm),slx,slt,sle]
theorem Tryz.infoStmt:(Tryz.prog.info? 110).map (λ i=>(i.zero,i.size,i.bytes))=some (some (.agg #[.int .i64 0,.int .i64 0,.string ⟨#[]⟩,.slice none 0 0,.slice none 0 0,.slice none 0 0]),6,104):=by kernel_rfl
theorem Ut.open {gc gm d:Nat} {w w':World} {e:Ending} (h:Ut gc gm d w e w'):∃ hd ar a c,e=.returned (exv hd (.slice a ar.len c))/\Xq (Xk w' (λ b=>w.heap.size<=b) ar (.slice a ar.len c)/\Zd d hd ar/\Cod w' gc/\w.grownBy w' (some gc)):=by
 obtain⟨hd,ar,sl,rfl,ha,hE,hc,hg⟩:=h
 have ha2:=ha
 obtain⟨a,c,rws,rfl,_⟩:=ha2
 exact⟨hd,ar,a,c,rfl,Xj ⟨ha,hE,hc,hg⟩⟩
theorem Ar (gc gm d:Nat) (M:Mk) (w:World) (h:Yg w gc gm M):Calls Tryz.prog 120 #[.pointer (some ⟨gm,0,none⟩),.int .i64 0] w (Ut gc gm d w):=by
 have hx:=ExW.start h
 have HL:Xq (gc<w.heap.size):=Xj (by have:=h.lt2;omega)
 have HLF:=Xj (λ W (hW:Yg W gc gm M)=>Mx gc gm d M W hW)
 have HM:=Xj h
 go_enter Tryz.func120,Tryz.ntmps120
 go_upto_region 1 with fail
 obtain⟨w1,hw1⟩:∃ w1,w.alloc zex=w1:=⟨_,rfl⟩
 rw[hw1] at hx ⊢
 obtain⟨g,hg⟩:∃ g,w.heap.size=g:=⟨_,rfl⟩
 rw[hg] at hx HL ⊢
 have HX:=Xj hx
 have hqm:=hx.mkr.lt2
 have c0:=cell_of_row _ _ 0 _ _ _ hx.mkr.row
 clear hw1 hx h hg
 go_wp2_with fail
 refine(HLF.o _ HX.o.mkr).mono ?_
 intro e wl hpl
 obtain⟨hd,ar,sa,sc,rfl,HR⟩:=hpl.open
 clear hpl
 have HXl:=Xj (HX.o.grown HL.o HR.o.2.2.2 HR.o.2.2.1)
 have HAl:Xq (Xk wl (λ b=>g<b) ar (.slice sa ar.len sc)):=Xj (HR.o.1.keep (λ b hb _=>⟨rfl,Nat.lt_of_lt_of_le HX.o.lts hb⟩) (Nat.le_refl _))
 obtain⟨jl,f0,f1,f2,f3,f4,f5,r0,r1,r2,r3,r4,r5⟩:=HXl.o.cells
 go_wp2_with fail
 obtain⟨q0,q1,q2,q3,q4,q5,HFN⟩:=HXl.o.fin HL.o (hd:=hd) (ar:=ar) (sl:=.slice sa ar.len sc) (d:=d) HAl.o HR.o.2.1 _ rfl
 refine bodyPost_ret (v:=exv hd (.slice sa ar.len sc)) (by simp[results,Tryz.results120,go_sem,q0,q1,q2,q3,q4,q5]) rfl ?_
 exact HFN.o
theorem As (gc gm d:Nat) (M:Mk) (hpc:d<=1000) (HE:∀ W,Yg W gc gm M->Calls Tryz.prog 120 #[.pointer (some ⟨gm,0,none⟩),.int .i64 (d:Int)] W (Ut gc gm d W)) (w:World) (h:Yg w gc gm M):Calls Tryz.prog 120 #[.pointer (some ⟨gm,0,none⟩),.int .i64 ((d:Int)+1)] w (Ut gc gm (d+1) w):=by
 have hx:=ExW.start h
 have HEX:=Xj HE
 have HCL:=Xj (λ W (hW:Yg W gc gm M)=>(Ml gc gm d M hpc HE W hW).mono (λ _ _ hp=>hp.1))
 clear HE
 have HL:Xq (gc<w.heap.size):=Xj (by have:=h.lt2;omega)
 have HLF:=Xj (λ W (hW:Yg W gc gm M)=>Mx gc gm (d+1) M W hW)
 have HPK:=Xj (λ W (hW:Yg W gc gm M)=>Wf gc gm M true W hW)
 have HM:=Xj h
 have d0:decide ((d:Int)+1<1)=false:=by rw[decide_eq_false_iff_not];omega
 go_enter Tryz.func120,Tryz.ntmps120
 go_upto_region 1 with fail
 obtain⟨w1,hw1⟩:∃ w1,w.alloc zex=w1:=⟨_,rfl⟩
 rw[hw1] at hx ⊢
 obtain⟨g,hg⟩:∃ g,w.heap.size=g:=⟨_,rfl⟩
 rw[hg] at hx HL ⊢
 have HX0:=Xj hx
 have hqm:=hx.mkr.lt2
 have c0:=cell_of_row _ _ 0 _ _ _ hx.mkr.row
 clear hw1 hx h hg
 go_wp2_with fail
 refine(Yj gc 3 (by omega) _ HX0.o.mkr.cod).mono ?_
 rintro e w2 ⟨x,rfl,x0,x1,hH,hg⟩
 have HX:=Xj (HX0.o.grown HL.o hg hH)
 clear c0 hH hg HX0 hqm
 clear w1
 by_cases hx0:x=0
 ·subst hx0
  clear x0 x1
  go_wp2_with fail
  refine(HLF.o _ HX.o.mkr).mono ?_
  intro e wl hpl
  obtain⟨hd,ar,sa,sc,rfl,HR⟩:=hpl.open
  clear hpl
  have HXl:=Xj (HX.o.grown HL.o HR.o.2.2.2 HR.o.2.2.1)
  have HAl:Xq (Xk wl (λ b=>g<b) ar (.slice sa ar.len sc)):=Xj (HR.o.1.keep (λ b hb _=>⟨rfl,Nat.lt_of_lt_of_le HX.o.lts hb⟩) (Nat.le_refl _))
  obtain⟨jl,f0,f1,f2,f3,f4,f5,r0,r1,r2,r3,r4,r5⟩:=HXl.o.cells
  go_wp2_with fail
  obtain⟨q0,q1,q2,q3,q4,q5,HFN⟩:=HXl.o.fin HL.o (hd:=hd) (ar:=ar) (sl:=.slice sa ar.len sc) (d:=d+1) HAl.o HR.o.2.1 _ rfl
  refine bodyPost_ret (v:=exv hd (.slice sa ar.len sc)) (by simp[results,Tryz.results120,go_sem,q0,q1,q2,q3,q4,q5]) rfl ?_
  exact HFN.o
 have dx:(x==0)=false:=by rw[beq_eq_false_iff_ne];exact hx0
 clear hx0 x0 x1
 go_wp2_with fail
 refine(Yj gc 9 (by omega) _ HX.o.mkr.cod).mono ?_
 rintro e w3 ⟨y,rfl,y0,y1,hH,hg⟩
 have HX3:=Xj (HX.o.grown HL.o hg hH)
 clear hH hg HX
 clear w2
 have y2:y<9:=by omega
 clear y1
 go_upto_block 0 with fail
 go_cut [6,7] from 23 to 78 (λ v6 v7 wx=>Xq (ExW w gc gm M g wx))
 case first =>
  by_cases e0:y=0
  ·subst e0
   clear y0 y2
   go_wp2_with fail
   refine(Yj gc 2 (by omega) _ HX3.o.mkr.cod).mono ?_
   rintro e w3b ⟨z,rfl,z0,z1,hH,hg⟩
   have hqr:=Xj (HX3.o.grown HL.o hg hH)
   clear hH hg
   have z2:z<2:=by omega
   go_wp2_with fail
   refine(HEX.o _ hqr.o.mkr).mono ?_
   intro e w4 hp4
   obtain⟨h4,ar4,a4,k4,rfl,HR4⟩:=hp4.open
   clear hp4
   have HX4:=Xj (hqr.o.grown HL.o HR4.o.2.2.2 HR4.o.2.2.1)
   go_wp2_with fail
   have HFA:Xq (Zb w4 (λ b=>g<b) (Xb h4 ar4) (hdc h4 (.slice a4 ar4.len k4))):=Xj (Xk.one (HR4.o.1.keep (λ b hb _=>⟨rfl,Nat.lt_of_lt_of_le hqr.o.lts hb⟩) (Nat.le_refl _)))
   have HAM:=Xj (Zh (Q:=λ b=>g<b) HFA.o (by simp[Fo.len,maxLen]) (λ b hb _=>hb) HX4.o.lts)
   have HXA:=Xj (HX4.o.below (Xw w4 (.cells (hdc h4 (.slice a4 ar4.len k4)).toArray 37)))
   refine(Qc _ _ _ _ _ _).mono ?_
   rintro e wn ⟨rfl,hbn⟩
   have HXN:=Xj (HXA.o.below hbn)
   have HAN:=Xj (HAM.o.keep (λ b hb hlt=>⟨hbn.block b hlt,hb⟩) hbn.size)
   clear hbn
   obtain⟨jl,f0,f1,f2,f3,f4,f5,r0,r1,r2,r3,r4,r5⟩:=HXN.o.cells
   go_wp2_with fail
   obtain⟨q0,q1,q2,q3,q4,q5,HFN⟩:=HXN.o.fin HL.o (hd:=⟨5,1+z,0,0,[]⟩) (ar:=(Xb h4 ar4)) (sl:=.slice (some ⟨w4.heap.size,0,none⟩) 1 1) (d:=d+1) HAN.o (Zd.up (.inr (.inr ⟨rfl,rfl,.inl ⟨rfl,by show (1:Int)<=1+z;omega,by show 1+z<=2;omega,rfl⟩⟩)) rfl (Qv.cons (Qv.nil d) HR4.o.2.1) (by simp[Fo.len])) _ rfl
   refine bodyPost_ret (v:=exv ⟨5,1+z,0,0,[]⟩ (.slice (some ⟨w4.heap.size,0,none⟩) 1 1)) (by simp[results,Tryz.results120,go_sem,Fo.len,q0,q1,q2,q3,q4,q5]) rfl ?_
   exact HFN.o
  by_cases e1:y=1
  ·subst e1
   clear y0 y2
   go_wp2_with fail
   refine(HEX.o _ HX3.o.mkr).mono ?_
   intro e w4 hp4
   obtain⟨h4,ar4,a4,k4,rfl,HR4⟩:=hp4.open
   clear hp4
   have HX4:=Xj (HX3.o.grown HL.o HR4.o.2.2.2 HR4.o.2.2.1)
   go_wp2_with fail
   refine(HEX.o _ HX4.o.mkr).mono ?_
   intro e w5 hp5
   obtain⟨h5,ar5,a5,k5,rfl,HR5⟩:=hp5.open
   clear hp5
   have HX5:=Xj (HX4.o.grown HL.o HR5.o.2.2.2 HR5.o.2.2.1)
   go_wp2_with fail
   have HFA:Xq (Zb w5 (λ b=>g<b) (.cons h4 ar4 (Xb h5 ar5)) (hdc h4 (.slice a4 ar4.len k4)++hdc h5 (.slice a5 ar5.len k5))):=Xj (Zb.app (F:=Xb h4 ar4) (Xk.one (HR4.o.1.keep (λ b hb hlt=>⟨HR5.o.2.2.2.block b hlt (by simp;have:=HL.o;have:=HX3.o.lts;omega),Nat.lt_of_lt_of_le HX3.o.lts hb⟩) HR5.o.2.2.2.size)) (Xk.one (HR5.o.1.keep (λ b hb _=>⟨rfl,Nat.lt_of_lt_of_le HX4.o.lts hb⟩) (Nat.le_refl _))))
   have HAM:=Xj (Zh (Q:=λ b=>g<b) HFA.o (by simp[Fo.len,maxLen]) (λ b hb _=>hb) HX5.o.lts)
   have HXA:=Xj (HX5.o.below (Xw w5 (.cells (hdc h4 (.slice a4 ar4.len k4)++hdc h5 (.slice a5 ar5.len k5)).toArray 37)))
   refine(Qc _ _ _ _ _ _).mono ?_
   rintro e wn ⟨rfl,hbn⟩
   have HXN:=Xj (HXA.o.below hbn)
   have HAN:=Xj (HAM.o.keep (λ b hb hlt=>⟨hbn.block b hlt,hb⟩) hbn.size)
   clear hbn
   obtain⟨jl,f0,f1,f2,f3,f4,f5,r0,r1,r2,r3,r4,r5⟩:=HXN.o.cells
   go_wp2_with fail
   obtain⟨q0,q1,q2,q3,q4,q5,HFN⟩:=HXN.o.fin HL.o (hd:=⟨7,0,0,0,[]⟩) (ar:=(.cons h4 ar4 (Xb h5 ar5))) (sl:=.slice (some ⟨w5.heap.size,0,none⟩) 2 2) (d:=d+1) HAN.o (Zd.up (.inl ⟨rfl,rfl,.inr (.inr (.inr (.inr (.inl ⟨.inl rfl,rfl,rfl⟩))))⟩) rfl (Qv.cons (Qv.cons (Qv.nil d) HR5.o.2.1) HR4.o.2.1) (by simp[Fo.len])) _ rfl
   refine bodyPost_ret (v:=exv ⟨7,0,0,0,[]⟩ (.slice (some ⟨w5.heap.size,0,none⟩) 2 2)) (by simp[results,Tryz.results120,go_sem,Fo.len,q0,q1,q2,q3,q4,q5]) rfl ?_
   exact HFN.o
  by_cases e2:y=2
  ·subst e2
   clear y0 y2
   go_wp2_with fail
   refine(HEX.o _ HX3.o.mkr).mono ?_
   intro e w4 hp4
   obtain⟨h4,ar4,a4,k4,rfl,HR4⟩:=hp4.open
   clear hp4
   have HX4:=Xj (HX3.o.grown HL.o HR4.o.2.2.2 HR4.o.2.2.1)
   go_wp2_with fail
   refine(HEX.o _ HX4.o.mkr).mono ?_
   intro e w5 hp5
   obtain⟨h5,ar5,a5,k5,rfl,HR5⟩:=hp5.open
   clear hp5
   have HX5:=Xj (HX4.o.grown HL.o HR5.o.2.2.2 HR5.o.2.2.1)
   go_wp2_with fail
   have HFA:Xq (Zb w5 (λ b=>g<b) (.cons h4 ar4 (Xb h5 ar5)) (hdc h4 (.slice a4 ar4.len k4)++hdc h5 (.slice a5 ar5.len k5))):=Xj (Zb.app (F:=Xb h4 ar4) (Xk.one (HR4.o.1.keep (λ b hb hlt=>⟨HR5.o.2.2.2.block b hlt (by simp;have:=HL.o;have:=HX3.o.lts;omega),Nat.lt_of_lt_of_le HX3.o.lts hb⟩) HR5.o.2.2.2.size)) (Xk.one (HR5.o.1.keep (λ b hb _=>⟨rfl,Nat.lt_of_lt_of_le HX4.o.lts hb⟩) (Nat.le_refl _))))
   have HAM:=Xj (Zh (Q:=λ b=>g<b) HFA.o (by simp[Fo.len,maxLen]) (λ b hb _=>hb) HX5.o.lts)
   have HXA:=Xj (HX5.o.below (Xw w5 (.cells (hdc h4 (.slice a4 ar4.len k4)++hdc h5 (.slice a5 ar5.len k5)).toArray 37)))
   refine(Qc _ _ _ _ _ _).mono ?_
   rintro e wn ⟨rfl,hbn⟩
   have HXN:=Xj (HXA.o.below hbn)
   have HAN:=Xj (HAM.o.keep (λ b hb hlt=>⟨hbn.block b hlt,hb⟩) hbn.size)
   clear hbn
   obtain⟨jl,f0,f1,f2,f3,f4,f5,r0,r1,r2,r3,r4,r5⟩:=HXN.o.cells
   go_wp2_with fail
   obtain⟨q0,q1,q2,q3,q4,q5,HFN⟩:=HXN.o.fin HL.o (hd:=⟨8,0,0,0,[]⟩) (ar:=(.cons h4 ar4 (Xb h5 ar5))) (sl:=.slice (some ⟨w5.heap.size,0,none⟩) 2 2) (d:=d+1) HAN.o (Zd.up (.inl ⟨rfl,rfl,.inr (.inr (.inr (.inr (.inl ⟨.inr rfl,rfl,rfl⟩))))⟩) rfl (Qv.cons (Qv.cons (Qv.nil d) HR5.o.2.1) HR4.o.2.1) (by simp[Fo.len])) _ rfl
   refine bodyPost_ret (v:=exv ⟨8,0,0,0,[]⟩ (.slice (some ⟨w5.heap.size,0,none⟩) 2 2)) (by simp[results,Tryz.results120,go_sem,Fo.len,q0,q1,q2,q3,q4,q5]) rfl ?_
   exact HFN.o
  by_cases e3:y=3
  ·subst e3
   clear y0 y2
   go_wp2_with fail
   refine(HCL.o _ HX3.o.mkr).mono ?_
   intro e wl hpl
   obtain⟨hd,ar,sa,sc,rfl,HR⟩:=hpl.open
   clear hpl
   have HXl:=Xj (HX3.o.grown HL.o HR.o.2.2.2 HR.o.2.2.1)
   have HAl:Xq (Xk wl (λ b=>g<b) ar (.slice sa ar.len sc)):=Xj (HR.o.1.keep (λ b hb _=>⟨rfl,Nat.lt_of_lt_of_le HX3.o.lts hb⟩) (Nat.le_refl _))
   obtain⟨jl,f0,f1,f2,f3,f4,f5,r0,r1,r2,r3,r4,r5⟩:=HXl.o.cells
   go_wp2_with fail
   obtain⟨q0,q1,q2,q3,q4,q5,HFN⟩:=HXl.o.fin HL.o (hd:=hd) (ar:=ar) (sl:=.slice sa ar.len sc) (d:=d+1) HAl.o HR.o.2.1 _ rfl
   refine bodyPost_ret (v:=exv hd (.slice sa ar.len sc)) (by simp[results,Tryz.results120,go_sem,q0,q1,q2,q3,q4,q5]) rfl ?_
   exact HFN.o
  by_cases e4:y=4
  ·subst e4
   clear y0 y2
   go_wp2_with fail
   refine(HCL.o _ HX3.o.mkr).mono ?_
   intro e wl hpl
   obtain⟨hd,ar,sa,sc,rfl,HR⟩:=hpl.open
   clear hpl
   have HXl:=Xj (HX3.o.grown HL.o HR.o.2.2.2 HR.o.2.2.1)
   have HAl:Xq (Xk wl (λ b=>g<b) ar (.slice sa ar.len sc)):=Xj (HR.o.1.keep (λ b hb _=>⟨rfl,Nat.lt_of_lt_of_le HX3.o.lts hb⟩) (Nat.le_refl _))
   obtain⟨jl,f0,f1,f2,f3,f4,f5,r0,r1,r2,r3,r4,r5⟩:=HXl.o.cells
   go_wp2_with fail
   obtain⟨q0,q1,q2,q3,q4,q5,HFN⟩:=HXl.o.fin HL.o (hd:=hd) (ar:=ar) (sl:=.slice sa ar.len sc) (d:=d+1) HAl.o HR.o.2.1 _ rfl
   refine bodyPost_ret (v:=exv hd (.slice sa ar.len sc)) (by simp[results,Tryz.results120,go_sem,q0,q1,q2,q3,q4,q5]) rfl ?_
   exact HFN.o
  by_cases e5:y=5
  ·subst e5
   clear y0 y2
   go_wp2_with fail
   refine(HPK.o _ HX3.o.mkr).mono ?_
   rintro e w3b ⟨nm,ok,rfl,hpk,hH,hg⟩
   have hqr:=Xj (HX3.o.grown HL.o hg hH)
   cases ok
   ·clear hpk hg hH
    go_wp2_with fail
    go_meet
    exact hqr
   have HOK:=Xj ((hpk rfl).nm HM.o)
   clear hpk hg hH
   go_wp2_with fail
   refine(HEX.o _ hqr.o.mkr).mono ?_
   intro e w4 hp4
   obtain⟨h4,ar4,a4,k4,rfl,HR4⟩:=hp4.open
   clear hp4
   have HX4:=Xj (hqr.o.grown HL.o HR4.o.2.2.2 HR4.o.2.2.1)
   have HFA:Xq (Zb w4 (λ b=>g<b) (Xb h4 ar4) (hdc h4 (.slice a4 ar4.len k4))):=Xj (Xk.one (HR4.o.1.keep (λ b hb _=>⟨rfl,Nat.lt_of_lt_of_le hqr.o.lts hb⟩) (Nat.le_refl _)))
   have HAN:=Xj (Zh (Q:=λ b=>g<b) HFA.o (by simp[Fo.len,maxLen]) (λ b hb _=>hb) HX4.o.lts)
   have HXN:=Xj (HX4.o.below (Xw w4 (.cells (hdc h4 (.slice a4 ar4.len k4)).toArray 37)))
   have hg4:g<w4.heap.size:=HX4.o.lts
   obtain⟨jl,f0,f1,f2,f3,f4,f5,r0,r1,r2,r3,r4,r5⟩:=HX4.o.cells
   go_wp2_with fail
   obtain⟨q0,q1,q2,q3,q4,q5,HFN⟩:=HXN.o.fin HL.o (hd:=⟨4,0,0,0,nm⟩) (ar:=Xb h4 ar4) (sl:=.slice (some ⟨w4.heap.size,0,none⟩) 1 1) (d:=d+1) HAN.o (Zd.up (.inl ⟨rfl,rfl,.inr (.inr (.inr (.inl ⟨rfl,HOK.o,rfl⟩)))⟩) rfl (Qv.cons (Qv.nil d) HR4.o.2.1) (by simp[Fo.len])) _ (Zx _ hg4).symm
   refine bodyPost_ret (v:=exv ⟨4,0,0,0,nm⟩ (.slice (some ⟨w4.heap.size,0,none⟩) 1 1)) (by simp[results,Tryz.results120,go_sem,Fo.len,q0,q1,q2,q3,q4,q5]) rfl ?_
   exact HFN.o
  have d0:(y==0)=false:=by rw[beq_eq_false_iff_ne];exact e0
  have d1:(y==1)=false:=by rw[beq_eq_false_iff_ne];exact e1
  have d2:(y==2)=false:=by rw[beq_eq_false_iff_ne];exact e2
  have d3:(y==3)=false:=by rw[beq_eq_false_iff_ne];exact e3
  have d4:(y==4)=false:=by rw[beq_eq_false_iff_ne];exact e4
  have d5:(y==5)=false:=by rw[beq_eq_false_iff_ne];exact e5
  clear e0 e1 e2 e3 e4 e5 y0 y2
  go_wp2_with fail
  go_meet
  exact HX3
 have hqr:=hcut
 clear HX3 hcut y0 y2
 go_wp2_with fail
 refine(Yj gc 9 (by omega) _ hqr.o.mkr.cod).mono ?_
 rintro e w3 ⟨z,rfl,z0,z1,hH,hg⟩
 have HX3:=Xj (hqr.o.grown HL.o hg hH)
 clear hH hg hqr
 have z2:z<9:=by omega
 clear z1
 go_wp2_with fail
 refine(HEX.o _ HX3.o.mkr).mono ?_
 intro e w4 hp4
 obtain⟨h4,ar4,a4,k4,rfl,HR4⟩:=hp4.open
 clear hp4
 have HX4:=Xj (HX3.o.grown HL.o HR4.o.2.2.2 HR4.o.2.2.1)
 go_wp2_with fail
 refine(HEX.o _ HX4.o.mkr).mono ?_
 intro e w5 hp5
 obtain⟨h5,ar5,a5,k5,rfl,HR5⟩:=hp5.open
 clear hp5
 have HX5:=Xj (HX4.o.grown HL.o HR5.o.2.2.2 HR5.o.2.2.1)
 go_wp2_with fail
 have HFA:Xq (Zb w5 (λ b=>g<b) (.cons h4 ar4 (Xb h5 ar5)) (hdc h4 (.slice a4 ar4.len k4)++hdc h5 (.slice a5 ar5.len k5))):=Xj (Zb.app (F:=Xb h4 ar4) (Xk.one (HR4.o.1.keep (λ b hb hlt=>⟨HR5.o.2.2.2.block b hlt (by simp;have:=HL.o;have:=HX3.o.lts;omega),Nat.lt_of_lt_of_le HX3.o.lts hb⟩) HR5.o.2.2.2.size)) (Xk.one (HR5.o.1.keep (λ b hb _=>⟨rfl,Nat.lt_of_lt_of_le HX4.o.lts hb⟩) (Nat.le_refl _))))
 have HAM:=Xj (Zh (Q:=λ b=>g<b) HFA.o (by simp[Fo.len,maxLen]) (λ b hb _=>hb) HX5.o.lts)
 have HXA:=Xj (HX5.o.below (Xw w5 (.cells (hdc h4 (.slice a4 ar4.len k4)++hdc h5 (.slice a5 ar5.len k5)).toArray 37)))
 refine(Qc _ _ _ _ _ _).mono ?_
 rintro e wn ⟨rfl,hbn⟩
 have HXN:=Xj (HXA.o.below hbn)
 have HAN:=Xj (HAM.o.keep (λ b hb hlt=>⟨hbn.block b hlt,hb⟩) hbn.size)
 clear hbn
 obtain⟨jl,f0,f1,f2,f3,f4,f5,r0,r1,r2,r3,r4,r5⟩:=HXN.o.cells
 go_wp2_with fail
 obtain⟨q0,q1,q2,q3,q4,q5,HFN⟩:=HXN.o.fin HL.o (hd:=⟨6,3+z,0,0,[]⟩) (ar:=(.cons h4 ar4 (Xb h5 ar5))) (sl:=.slice (some ⟨w5.heap.size,0,none⟩) 2 2) (d:=d+1) HAN.o (Zd.up (.inr (.inr ⟨rfl,rfl,.inr ⟨rfl,by show (3:Int)<=3+z;omega,by show 3+z<=11;omega,rfl⟩⟩)) rfl (Qv.cons (Qv.cons (Qv.nil d) HR5.o.2.1) HR4.o.2.1) (by simp[Fo.len])) _ rfl
 refine bodyPost_ret (v:=exv ⟨6,3+z,0,0,[]⟩ (.slice (some ⟨w5.heap.size,0,none⟩) 2 2)) (by simp[results,Tryz.results120,go_sem,Fo.len,q0,q1,q2,q3,q4,q5]) rfl ?_
 exact HFN.o
theorem Gf (gc gm d:Nat) (M:Mk) (hpc:d<=1000) (w:World) (h:Yg w gc gm M):Calls Tryz.prog 120 #[.pointer (some ⟨gm,0,none⟩),.int .i64 (d:Int)] w (Ut gc gm d w):=by
 induction d generalizing w with
 | zero=>exact Ar gc gm 0 M w h
 | succ d ih=>exact As gc gm d M (by omega) (λ W hW=>ih (by omega) W hW) w h
theorem Bu (gc gm:Nat) (M:Mk) (w:World) (h:Yg w gc gm M):Calls Tryz.prog 123 #[.pointer (some ⟨gm,0,none⟩),.int .i64 2] w (Px gc gm 2 w) :=
 Ml gc gm 1 M (by omega) (λ W hW=>Gf gc gm 1 M (by omega) W hW) w h
structure Chg (w w':World) (gc gm:Nat) (M M':Mk):Prop where
 os:w'.os=w.os
 tape:w'.tape=w.tape
 output:w'.output=w.output
 size:w.heap.size<=w'.heap.size
 block:∀ k,k<w.heap.size->k≠gc->k≠gm->some k≠M.vl.ownBlock->w'.heap[k]?=w.heap[k]?
 vl:∀ k,M'.vl.ownBlock=some k->k<w.heap.size->M.vl.ownBlock=some k
 ga:M'.va=M.va
 gb:M'.vb=M.vb
 gg:M'.gs=M.gs
 gf:M'.fs=M.fs
theorem Chg.trans {w w1 w2:World} {gc gm:Nat} {M M1 M2:Mk} (h:Chg w w1 gc gm M M1) (k:Chg w1 w2 gc gm M1 M2):Chg w w2 gc gm M M2 :=
 ⟨k.os.trans h.os,k.tape.trans h.tape,k.output.trans h.output,Nat.le_trans h.size k.size,
  λ i hi h1 h2 h3=>(k.block i (Nat.lt_of_lt_of_le hi h.size) h1 h2 (λ e=>h3 (h.vl i e.symm hi).symm)).trans (h.block i hi h1 h2 h3),
  λ i hi hlt=>h.vl i (k.vl i hi (Nat.lt_of_lt_of_le hlt h.size)) hlt,k.ga.trans h.ga,k.gb.trans h.gb,k.gg.trans h.gg,k.gf.trans h.gf⟩
theorem Chg.of_grown {w w':World} {gc gm:Nat} {M:Mk} (hg:w.grownBy w' (some gc)):Chg w w' gc gm M M :=
 ⟨hg.os,hg.tape,hg.output,hg.size,λ k hk h1 _ _=>hg.block k hk (λ e=>h1 (by injection e)),λ k hk _=>hk,rfl,rfl,rfl,rfl⟩
theorem Chg.of_below {w w':World} {gc gm:Nat} {M:Mk} (hb:Below w.heap.size w w'):Chg w w' gc gm M M:=Chg.of_grown (Xm hb _)
def TB (lo:Nat) (M:Mk):Nat->Prop:=λ b=>lo<=b/\some b≠M.vl.ownBlock
theorem Chg.kp {w w':World} {gc gm lo:Nat} {M M':Mk} (h:Chg w w' gc gm M M') (h1:gc<lo) (h2:gm<lo):∀ b,TB lo M b->b<w.heap.size->w'.heap[b]?=w.heap[b]?/\TB lo M' b :=
 λ b hb hlt=>⟨h.block b hlt (by have:=hb.1;omega) (by have:=hb.1;omega) hb.2,hb.1,λ e=>hb.2 (h.vl b e.symm hlt).symm⟩
theorem Xf.chg {w w':World} {gc gm lo:Nat} {M M':Mk} {S:Sf} {sl:Value} (h:Xf w (TB lo M) S sl) (hc:Chg w w' gc gm M M') (h1:gc<lo) (h2:gm<lo):Xf w' (TB lo M') S sl:=h.keep (hc.kp h1 h2) hc.size
theorem Xk.chg {w w':World} {gc gm lo:Nat} {M M':Mk} {F:Fo} {sl:Value} (h:Xk w (TB lo M) F sl) (hc:Chg w w' gc gm M M') (h1:gc<lo) (h2:gm<lo):Xk w' (TB lo M') F sl:=h.keep (hc.kp h1 h2) hc.size
theorem Zp.chg {w w':World} {gc gm lo:Nat} {M M':Mk} {S:Sf} {cs:List Value} (h:Zp w (TB lo M) S cs) (hc:Chg w w' gc gm M M') (h1:gc<lo) (h2:gm<lo):Zp w' (TB lo M') S cs:=h.keep (hc.kp h1 h2) hc.size
theorem TB.of {w:World} {gc gm lo:Nat} {M:Mk} (hM:Yg w gc gm M) (hlo:lo<=w.heap.size):∀ b,w.heap.size<=b->TB lo M b:=λ b hb =>
 ⟨by omega,λ e=>by have:=(hM.lo.lt b e.symm).2;omega⟩
def Ku (gc gm deep:Nat) (M:Mk) (w:World) (e:Ending) (w':World):Prop :=
 ∃ (k:Int) (nm:Bt) (xs:Fo) (th el:Sf) (slx slt sle:Value) (M':Mk),e=.returned (stv k 0 nm slx slt sle) /\
  Xk w' (TB w.heap.size M') xs slx/\Xf w' (TB w.heap.size M') th slt/\Xf w' (TB w.heap.size M') el sle /\
  Chg w w' gc gm M M'/\Yg w' gc gm M'/\0<=M'.bud/\M'.ls.length+M'.bud<=9 /\
  (Zq k 0 nm xs th el).wf/\((Zq k 0 nm xs th el).cst:Int)<=1300+1300*(M.bud-M'.bud)/\(Zq k 0 nm xs th el).nst<=deep+1/\(Zq k 0 nm xs th el).hgt<=3
def Hw (gc gm deep:Nat) (M:Mk) (w:World) (e:Ending) (w':World):Prop :=
 ∃ (S:Sf) (sl:Value) (xs:List Value) (M':Mk),e=.returned sl/\w'.ownsRow w.heap.size 110 6 sl S.len xs/\Zp w' (λ b=>TB w.heap.size M' b/\some b≠sl.ownBlock) S xs/\Chg w w' gc gm M M'/\Yg w' gc gm M'/\0<=M'.bud/\M'.ls.length+M'.bud<=9 /\
  S.wf/\(S.cst:Int)<=1300*(M.bud-M'.bud)/\S.nst<=deep+1/\S.hgt<=3
theorem Al (gc gm:Nat) (M:Mk) (w:World) (h:Yg w gc gm M):Calls Tryz.prog 119 #[.pointer (some ⟨gm,0,none⟩)] w λ e w'=>Below w.heap.size w w'/\∃ (nm:Bt) (ok:Bool),e=.returned (.tuple #[.string (st nm),.bool ok])/\(ok=true->okN nm):=by
 have HM:=Xj h
 clear h
 have HNM:=Xj (Am w)
 go_enter Tryz.func119,Tryz.ntmps119
 go_wp2_with fail
 refine HNM.o.mono ?_
 rintro e w1 ⟨rfl,hw1⟩
 have hb:Below w.heap.size w w1:=by rw[hw1];exact Xw _ _
 have hn:=heap_alloc_new w (.cells (Qw namesL).toArray 9)
 rw[<- hw1] at hn
 have HB:=Xj hb
 have HM1:=Xj (HM.o.below hb)
 obtain⟨gn,hgn⟩:∃ gn,w.heap.size=gn:=⟨_,rfl⟩
 rw[hgn] at hn ⊢
 have HN:Xq (∀ j x,namesL[j]?=some x->w1.cell? ⟨gn,j,none⟩=some (.string (st x))):=Xj (λ j x hj=>by
  rw[cell_of_row w1 gn j _ _ _ hn]
  show (Qw namesL).toArray[j]?=_
  rw[List.getElem?_toArray];unfold Qw;rw[List.getElem?_map,hj];rfl)
 clear hw1 hb hn hgn HNM
 obtain⟨al,cl,hvl,hll,hzd,hvp,hls⟩:=Ev.of_own HM1.o.lo
 have hln:=HM.o.ln
 have HLS:=Xj hls
 have HVL:=Xj hvl
 have HROW:Xq (∀ W,Below w1.heap.size w1 W->W.cell? ⟨gm,3,none⟩=some (.slice al M.ls.length cl)):=Xj (λ W hW=>by
  rw[<- HVL.o];exact cell_of_row _ _ 3 _ _ _ (HM1.o.below hW).row)
 clear hvl hll hls
 go_upto_block 0 with fail
 go_wp2_with fail
 go_loopw [5] (λ v5 wr=>∃ i:Nat,i<=8/\v5=.int .i64 i/\Xq (Below w1.heap.size w1 wr)) (λ v5 _=>8-(intOf v5).toNat)
 case atStart=>exact⟨0,by omega,rfl,Xj (Below.refl _ _)⟩
 obtain⟨i,hi,rfl,HR⟩:=hrel
 by_cases hlt:i<8
 ·obtain⟨x,hx⟩:∃ x,namesL[i]?=some x:=⟨_,List.getElem?_eq_getElem hlt⟩
  have HNX:Xq (∀ W,Below w1.heap.size w1 W->W.cell? ⟨gn,i,none⟩=some (.string (st x))):=Xj (λ W hW=>by
   have:=HN.o i x hx
   exact(hW.cell (p:=⟨gn,i,none⟩) (block_lt_of_cell this)).trans this)
  have HOK:Xq (okN x):=Xj (Ac x (List.mem_of_getElem? hx))
  clear hx
  go_upto_block 2 with fail
  go_wp2_with fail
  go_loopw [6,7] (λ v6 v7 wq=>∃ (k:Nat) (u:Bool),k<=M.ls.length/\v6=.bool u/\v7=.int .i64 k/\Xq (Below w1.heap.size w1 wq)) (λ _ v7 _=>M.ls.length-(intOf v7).toNat)
  case atStart=>exact⟨0,false,by omega,rfl,rfl,HR⟩
  clear HR
  obtain⟨k,u,hk,rfl,rfl,HR⟩:=hrel
  have c3:=HROW.o _ HR.o
  have hnx:=HNX.o _ HR.o
  by_cases hlk:k<M.ls.length
  ·obtain⟨y,hy⟩:∃ y,M.ls[k]?=some y:=⟨_,List.getElem?_eq_getElem hlk⟩
   obtain⟨bl,ol,rfl,hbl,hyc⟩:=HLS.o k y hy
   have hyc2:=(HR.o.cell (p:=⟨bl,ol+k,none⟩) hbl).trans hyc
   have k0:(0:Int)<=(k:Int):=by omega
   have k1:(k:Int)<(M.ls.length:Int):=by omega
   have i0:(0:Int)<=(i:Int):=by omega
   have i1:(i:Int)<8:=by omega
   clear hy hyc
   cases u
   ·obtain⟨bq,hbq⟩:∃ b,(st y==st x)=b:=⟨_,rfl⟩
    go_wp2_with fail
    go_quiet (fail)
    go_wp2_with fail
    go_roundw
    case rel=>exact⟨k+1,_,by omega,rfl,by go_num,Xj (HR.o.trans ⟨rfl,rfl,rfl,Nat.le_refl _,λ _ _=>rfl⟩)⟩
    simp[intOf];omega
   go_wp2_with fail
   go_quiet (fail)
   go_wp2_with fail
   go_roundw
   case rel=>exact⟨k+1,_,by omega,rfl,by go_num,Xj (HR.o.trans ⟨rfl,rfl,rfl,Nat.le_refl _,λ _ _=>rfl⟩)⟩
   simp[intOf];omega
  obtain rfl:k=M.ls.length:=by omega
  cases u
  ·go_wp2_with fail
   refine bodyPost_ret (v:=.tuple #[.string (st x),.bool true]) (by simp[results,Tryz.results119,go_sem]) rfl ?_
   exact⟨HB.o.trans (HR.o.mono HB.o.size),x,true,rfl,λ _=>HOK.o⟩
  go_wp2_with fail
  go_roundw
  case rel=>exact⟨i+1,by omega,by go_num,HR⟩
  simp[intOf];omega
 obtain rfl:i=8:=by omega
 go_wp2_with fail
 refine bodyPost_ret (v:=.tuple #[.string (st []),.bool false]) (by simp[results,Tryz.results119,go_sem]) rfl ?_
 exact⟨HB.o.trans (HR.o.mono HB.o.size),[],false,rfl,λ h=>nomatch h⟩
def Jw (w:World) (k:Nat):Prop:=∃ cs t fr,w.heap[k]?=some (.cells cs t fr)/\(t=37\/t=110)
theorem Jw.ne_own {w:World} {k base e size n:Nat} {v:Value} {xs:List Value} (h:Jw w k) (ho:w.ownsRow base e size v n xs) (he:e≠37/\e≠110):v.ownBlock≠some k:=by
 obtain⟨cs,t,fr,h1,h2⟩:=h
 rcases ho.2 with⟨rfl,_⟩|⟨g,cap,cur,rfl,_,hg,_⟩
 ·intro e;cases e
 intro e1
 have e2:g=k:=by simpa [Value.ownBlock] using e1
 subst e2
 rw[hg] at h1
 injection h1 with h1
 injection h1 with _ h1 _
 subst h1
 rcases h2 with h2|h2
 ·exact he.1 h2
 exact he.2 h2
theorem Yg.tree {w w':World} {gc gm:Nat} {M:Mk} {r:Option Nat} (h:Yg w gc gm M) (hg:w.grownBy w' r) (hr:∀ k,r=some k->gc<k/\Jw w k):Yg w' gc gm M :=
 have hne:∀ k,r=some k->k≠gm:=λ k hk e=>by
  subst e
  obtain⟨_,cs,t,fr,h1,h2⟩:=hr k hk
  rw[h.row] at h1
  injection h1 with h1
  injection h1 with _ h1 _
  subst h1
  rcases h2 with h2|h2<;>exact absurd h2 (by decide)
 have key:∀ {e k n:Nat} {u:Value} {l:List Value},e≠37/\e≠110->w.ownsRow (gm+1) e k u n l->w'.ownsRow (gm+1) e k u n l:=λ {e k n u l} he h1=>by
  refine h1.kept hg ?_
  cases hq:u.ownBlock with
  | none=>exact .inl rfl
  | some q=>exact .inr (λ e1=>(hr q e1.symm).2.ne_own h1 he hq)
 {h with
  cod:=h.cod.keep λ k hk=>hg.block k (by have:=h.cod.lt;omega) (λ e=>by have:=(hr k e.symm).1;omega)
  row:=(hg.block gm (Xv h.row) (λ e=>hne gm e.symm rfl)).trans h.row
  gl:=key ⟨by decide,by decide⟩ h.gl
  fn:=key ⟨by decide,by decide⟩ h.fn
  lo:=key ⟨by decide,by decide⟩ h.lo }
theorem Chg.own {w wx wy:World} {gc gm:Nat} {M M':Mk} {r:Option Nat} (h:Chg w wx gc gm M M') (hg:wx.grownBy wy r) (hr:∀ k,r=some k->w.heap.size<=k):Chg w wy gc gm M M' :=
 ⟨hg.os.trans h.os,hg.tape.trans h.tape,hg.output.trans h.output,Nat.le_trans h.size hg.size,
  λ k hk h1 h2 h3=>(hg.block k (Nat.lt_of_lt_of_le hk h.size) (λ e=>by have:=hr k e.symm;omega)).trans (h.block k hk h1 h2 h3),h.vl,h.ga,h.gb,h.gg,h.gf⟩
abbrev zst:Obj:=.cells #[.int .i64 0,.int .i64 0,.string { data := #[] },.slice none 0 0,.slice none 0 0,.slice none 0 0] 110 (0,0)
structure StW (w:World) (gc gm:Nat) (M M':Mk) (g:Nat) (wx:World):Prop where
 eg:g=w.heap.size
 row:wx.heap[g]?=some zst
 mkr:Yg wx gc gm M'
 chg:Chg w wx gc gm M M'
 lc:gc<g
 lm:gm<g
theorem StW.start {w:World} {gc gm:Nat} {M:Mk} (h:Yg w gc gm M):StW w gc gm M M w.heap.size (w.alloc zst) :=
 ⟨rfl,heap_alloc_new w _,h.below (Xw _ _),Chg.of_below (Xw _ _),by have:=h.lt2;omega,by have:=h.lt2;omega⟩
theorem StW.lts {w:World} {gc gm:Nat} {M M':Mk} {g:Nat} {wx:World} (h:StW w gc gm M M' g wx):g<wx.heap.size:=Xv h.row
theorem StW.tree {w:World} {gc gm:Nat} {M M':Mk} {g:Nat} {wx:World} (h:StW w gc gm M M' g wx):Jw wx g:=⟨_,_,_,h.row,.inr rfl⟩
theorem StW.grown {w:World} {gc gm:Nat} {M M':Mk} {g:Nat} {wx wy:World} (h:StW w gc gm M M' g wx) (hg:wx.grownBy wy (some gc)) (hc:Cod wy gc):StW w gc gm M M' g wy :=
 ⟨h.eg,(hg.block g h.lts (λ e=>by injection e with e;have:=h.lc;omega)).trans h.row,h.mkr.grown hg hc,h.chg.trans (Chg.of_grown hg),h.lc,h.lm⟩
theorem StW.below {w:World} {gc gm:Nat} {M M':Mk} {g:Nat} {wx wy:World} (h:StW w gc gm M M' g wx) (hb:Below wx.heap.size wx wy):StW w gc gm M M' g wy :=
 h.grown (Xm hb _) (h.mkr.cod.below hb h.mkr.cod.lt)
theorem StW.step {w:World} {gc gm:Nat} {M M1 M2:Mk} {g:Nat} {wx wy:World} (h:StW w gc gm M M1 g wx) (hc:Chg wx wy gc gm M1 M2) (hm:Yg wy gc gm M2):StW w gc gm M M2 g wy :=
 ⟨h.eg,(hc.block g h.lts (by have:=h.lc;omega) (by have:=h.lm;omega) (λ e=>(h.tree.ne_own h.mkr.lo ⟨by decide,by decide⟩) e.symm)).trans h.row,hm,h.chg.trans hc,h.lc,h.lm⟩
theorem StW.cells {w:World} {gc gm:Nat} {M M':Mk} {g:Nat} {wx:World} (h:StW w gc gm M M' g wx) :
  g<wx.heap.size/\wx.frozen? ⟨g,0,none⟩=false/\wx.frozen? ⟨g,1,none⟩=false/\wx.frozen? ⟨g,2,none⟩=false/\wx.frozen? ⟨g,3,none⟩=false/\wx.frozen? ⟨g,4,none⟩=false/\wx.frozen? ⟨g,5,none⟩=false /\
  wx.cell? ⟨g,0,none⟩=some (.int .i64 0)/\wx.cell? ⟨g,1,none⟩=some (.int .i64 0)/\wx.cell? ⟨g,2,none⟩=some (.string { data := #[] })/\wx.cell? ⟨g,3,none⟩=some (.slice none 0 0)/\wx.cell? ⟨g,4,none⟩=some (.slice none 0 0)/\wx.cell? ⟨g,5,none⟩=some (.slice none 0 0) :=
 ⟨h.lts,frozen_of_row _ g 0 _ _ h.row,frozen_of_row _ g 1 _ _ h.row,frozen_of_row _ g 2 _ _ h.row,frozen_of_row _ g 3 _ _ h.row,frozen_of_row _ g 4 _ _ h.row,frozen_of_row _ g 5 _ _ h.row,Xl h.row⟩
def Kw (deep:Nat) (M M':Mk) (k:Int) (nm:Bt) (xs:Fo) (th el:Sf):Prop :=
 0<=M'.bud/\M'.ls.length+M'.bud<=9/\(Zq k 0 nm xs th el).wf/\((Zq k 0 nm xs th el).cst:Int)<=1300+1300*(M.bud-M'.bud)/\(Zq k 0 nm xs th el).nst<=deep+1/\(Zq k 0 nm xs th el).hgt<=3
theorem StW.fin {w:World} {gc gm deep:Nat} {M M':Mk} {g:Nat} {wx:World} (h:StW w gc gm M M' g wx) {k:Int} {nm:Bt} {xs:Fo} {th el:Sf} {slx slt sle:Value}
  (hx:Xk wx (TB (g+1) M') xs slx) (ht:Xf wx (TB (g+1) M') th slt) (he:Xf wx (TB (g+1) M') el sle) (hG:Kw deep M M' k nm xs th el) :
  ∀ W,W=set6 wx g (.int .i64 k) (.int .i64 0) (.string (st nm)) slx slt sle ->
   W.cell? ⟨g,0,none⟩=some (.int .i64 k)/\W.cell? ⟨g,1,none⟩=some (.int .i64 0)/\W.cell? ⟨g,2,none⟩=some (.string (st nm))/\W.cell? ⟨g,3,none⟩=some slx/\W.cell? ⟨g,4,none⟩=some slt/\W.cell? ⟨g,5,none⟩=some sle/\Xq (Ku gc gm deep M w (.returned (stv k 0 nm slx slt sle)) W):=λ W hW=>by
 subst hW
 obtain⟨q0,q1,q2,q3,q4,q5⟩:=Xl (Qy (v0:=.int .i64 k) (v1:=.int .i64 0) (v2:=.string (st nm)) (v3:=slx) (v4:=slt) (v5:=sle) h.row)
 have hk:∀ b,TB (g+1) M' b->b<wx.heap.size->(set6 wx g (.int .i64 k) (.int .i64 0) (.string (st nm)) slx slt sle).heap[b]?=wx.heap[b]?/\TB w.heap.size M' b:=λ b hb _ =>
  ⟨Yq b (by have:=hb.1;omega),by have:=hb.1;have:=h.eg;omega,hb.2⟩
 have hs:wx.heap.size<=(set6 wx g (.int .i64 k) (.int .i64 0) (.string (st nm)) slx slt sle).heap.size:=by rw[Zz];exact Nat.le_refl _
 have hg:=Ux wx g (.int .i64 k) (.int .i64 0) (.string (st nm)) slx slt sle
 refine⟨q0,q1,q2,q3,q4,q5,Xj ⟨k,nm,xs,th,el,slx,slt,sle,M',rfl,hx.keep hk hs,ht.keep hk hs,he.keep hk hs,?_,?_,hG.1,hG.2.1,hG.2.2.1,hG.2.2.2.1,hG.2.2.2.2⟩⟩
 ·exact h.chg.own hg (λ k hk=>by injection hk with hk;have:=h.eg;omega)
 exact h.mkr.tree hg (λ k hk=>by injection hk with hk;subst hk;exact⟨h.lc,h.tree⟩)
theorem Yv {w w':World} {base e k n:Nat} {v:Value} {l:List Value} (h:w.ownsRow base e k v n l) (hb:∀ q,v.ownBlock=some q->w'.heap[q]?=w.heap[q]?):w'.ownsRow base e k v n l:=by
 refine⟨h.1,?_⟩
 rcases h.2 with h2|⟨g,cap,cur,rfl,h3,h4,h5⟩
 ·exact .inl h2
 exact .inr ⟨g,cap,cur,rfl,h3,(hb g rfl).trans h4,h5⟩
theorem Jw.of_own {w:World} {base e k n q:Nat} {v:Value} {l:List Value} (h:w.ownsRow base e k v n l) (he:e=37\/e=110) (hq:v.ownBlock=some q):Jw w q:=by
 rcases h.2 with⟨rfl,_⟩|⟨g,cap,cur,rfl,h3,h4,h5⟩
 ·cases hq
 have:g=q:=by simpa [Value.ownBlock] using hq
 subst this
 exact⟨_,_,_,h4,he⟩
theorem Chg.tree {w w':World} {gc gm lo e k n:Nat} {M M':Mk} {v:Value} {l:List Value} (h:Chg w w' gc gm M M') (hM:Yg w gc gm M) (ho:w.ownsRow lo e k v n l) (he:e=37\/e=110) (h1:gc<lo) (h2:gm<lo):w'.ownsRow lo e k v n l :=
 Yv ho λ q hq=>by
  have hl:=ho.lt q hq
  exact h.block q hl.2 (by omega) (by omega) (λ e1=>(Jw.of_own ho he hq).ne_own hM.lo ⟨by decide,by decide⟩ e1.symm)
theorem xjk {wB wS w9:World} {gc gm lo e g9 n:Nat} {M2 M3:Mk} {v:Value} {S N:Sf} {xs ds:List Value} {ob:Obj} (hS:Zp wB (λ b=>TB lo M2 b/\some b≠v.ownBlock) S xs) (hjj:wB.ownsRow lo e 6 v n xs)
  (hc:Chg wB wS gc gm M2 M3) (h1:gc<lo) (h2:gm<lo) (hlo:lo<=wB.heap.size) (hN:Zp wS (TB wB.heap.size M3) N ds) (hg9:(wS.alloc ob).grownBy w9 v.ownBlock) (h9:v.ownBlock=some g9\/g9=(wS.alloc ob).heap.size) :
  Zp w9 (λ b=>TB lo M3 b/\some b≠some g9) (S.app N) (xs++ds):=by
 have hs:=hc.size
 have hsA:(wS.alloc ob).heap.size=wS.heap.size+1:=by simp
 have hs9:=hg9.size
 refine Zp.app (hS.keep (λ b hb hlt=>⟨?_,(hc.kp h1 h2 b hb.1 hlt).2,?_⟩) (by omega)) (hN.keep (λ b hb hlt=>⟨?_,⟨by have:=hb.1;omega,hb.2⟩,?_⟩) (by omega))
 ·rw[hg9.block b (by omega) hb.2,Below.heap_alloc wS ob b (by omega),(hc.kp h1 h2 b hb.1 hlt).1]
 ·rcases h9 with h9|h9
  ·rw[<- h9];exact hb.2
  simp;omega
 ·have:=hb.1
  rw[hg9.block b (by omega) (λ e=>by have:=(hjj.lt b e.symm).2;omega),Below.heap_alloc wS ob b (by omega)]
 have:=hb.1
 rcases h9 with h9|h9
 ·have:=(hjj.lt g9 h9).2;simp;omega
 simp;omega
theorem Yg.bud {w:World} {gc gm:Nat} {M:Mk} (h:Yg w gc gm M) (z:Int):Yg (w.setCell ⟨gm,4,none⟩ (.int .i64 z)) gc gm { M with bud:=z } :=
 have hg:=Xu w gm 4 (.int .i64 z)
 {cod:=h.cod.keep λ k hk=>heap_setCell_other w ⟨gm,4,none⟩ k _ (by have:=h.lt;show k≠gm;omega)
  lt:=h.lt
  row:=heap_setCell_same _ gm 4 _ _ (.int .i64 z) h.row
  gl:=Yx h.gl hg (by omega)
  fn:=Yx h.fn hg (by omega)
  lo:=Yx h.lo hg (by omega)
  gok:=h.gok,fok:=h.fok,lok:=h.lok,gn:=h.gn,fn1:=h.fn1,fn2:=h.fn2,ln:=h.ln }
theorem Chg.bud {w:World} {gc gm:Nat} {M:Mk} (z:Int):Chg w (w.setCell ⟨gm,4,none⟩ (.int .i64 z)) gc gm M { M with bud:=z } :=
 ⟨rfl,rfl,rfl,by simp[World.setCell],λ k _ _ h2 _=>heap_setCell_other w ⟨gm,4,none⟩ k _ h2,λ k hk _=>hk,rfl,rfl,rfl,rfl⟩
def xzf (gc gm deep:Nat) (M:Mk) (w:World) (v:Value) (k:Nat) (wr:World):Prop :=
 ∃ (S:Sf) (xs:List Value) (M':Mk),S.len=k/\wr.ownsRow w.heap.size 110 6 v k xs/\Zp wr (λ b=>TB w.heap.size M' b/\some b≠v.ownBlock) S xs/\Chg w wr gc gm M M'/\Yg wr gc gm M' /\
  0<=M'.bud/\M'.ls.length+M'.bud<=9/\S.wf/\(S.cst:Int)<=1300*(M.bud-M'.bud)/\S.nst<=deep+1/\S.hgt<=3
theorem Mr (gc gm deep most:Nat) (hm:most<=9) (HS:∀ M W,Yg W gc gm M->0<=M.bud->M.ls.length+M.bud<=8->Calls Tryz.prog 70 #[.pointer (some ⟨gm,0,none⟩),.int .i64 (deep:Int)] W (Ku gc gm deep M W)) (M:Mk) (w:World) (h:Yg w gc gm M) (h0:0<=M.bud) (h9:M.ls.length+M.bud<=9) :
  Calls Tryz.prog 34 #[.pointer (some ⟨gm,0,none⟩),.int .i64 (deep:Int),.int .i64 (most:Int)] w (Hw gc gm deep M w):=by
 have HST:=Xj HS
 have HM:=Xj h
 obtain⟨i0,hi0,hz0,hz1,hz2⟩:=info_parts Tryz.infoStmt
 have HI:=Xj hi0
 have HZ0:=Xj hz0
 have HZ1:=Xj hz1
 have HZ2:=Xj hz2
 clear hi0 hz0 hz1 hz2 HS
 have HST0:Xq (xzf gc gm deep M w (.slice none 0 0) 0 w):=Xj ⟨.nil,[],M,rfl,World.ownsRow_nil _ _ _ _,rfl,Chg.of_below (Below.refl _ _),h,h0,h9,trivial,by simp[Sf.cst],by simp[Sf.nst],by simp[Sf.hgt]⟩
 clear h h0 h9
 go_enter Tryz.func34,Tryz.ntmps34
 go_upto_block 0 with fail
 go_wp2_with fail
 go_loopw [7,8] (λ v7 v8 wr=>∃ k:Nat,k<=most/\v8=.int .i64 k/\Xq (xzf gc gm deep M w v7 k wr)) (λ _ v8 _=>most-(intOf v8).toNat)
 case atStart=>exact⟨0,by omega,rfl,HST0⟩
 clear HST0
 obtain⟨k,hk,rfl,HB⟩:=hrel
 obtain⟨S,xs,M1,HJ,hjj,hS,hch,hmk,hb0,hb9,hw,hqj,hjc,hjr⟩:=HB.o
 have c4:=cell_of_row _ _ 4 _ _ _ hmk.row
 have f4:=frozen_of_row _ gm 4 _ _ hmk.row
 have jm:=Xv hmk.row
 have HGM:Xq (gc<w.heap.size/\gm<w.heap.size):=Xj (by have:=HM.o.lt2;omega)
 obtain⟨z,hz⟩:∃ z,M1.bud=z:=⟨_,rfl⟩
 rw[hz] at c4
 have hz0:0<=z:=by omega
 have hz9:z<=9:=by omega
 have HBZ:=Xj hz
 have HLEN:=Xj HJ
 have HOWN:=Xj hjj
 have HS:=Xj hS
 have HCH:=Xj hch
 have HMK:=Xj hmk
 have HW:=Xj hw
 have HN:=Xj (And.intro hb9 (And.intro hqj (And.intro hjc hjr)))
 clear HJ hjj hS hch hmk hb0 hb9 hw hqj hjc hjr hz
 by_cases hgo:k<most/\0<z
 ·obtain⟨hlt,hzp⟩:=hgo
  have dz:decide ((0:Int)<z)=true:=by rw[decide_eq_true_iff];exact hzp
  go_upto_region 6 with fail
  have HMB:=Xj (HMK.o.bud (z-1))
  have HCB:=Xj (Chg.bud (w:=wr) (gc:=gc) (gm:=gm) (M:=M1) (z-1))
  have HOB:=Xj (HCB.o.tree HMK.o HOWN.o (.inr rfl) HGM.o.1 HGM.o.2)
  have HSB:Xq (Zp (wr.setCell ⟨gm,4,none⟩ (.int .i64 (z-1))) (λ b=>TB w.heap.size { M1 with bud:=z-1 } b/\some b≠u7.ownBlock) S xs):=Xj (HS.o.keep (λ b hb hlt=>⟨(HCB.o.kp HGM.o.1 HGM.o.2 b hb.1 hlt).1,hb⟩) HCB.o.size)
  have Ho:=HST.o _ _ HMB.o (show 0<=z-1 by omega) (by show (M1.ls.length:Int)+(z-1)<=8;have:=HN.o.1;have:=HBZ.o;omega)
  have HCL:=Xj Ho
  clear Ho
  obtain⟨wB,hwB⟩:∃ wB,wr.setCell ⟨gm,4,none⟩ (.int .i64 (z-1))=wB:=⟨_,rfl⟩
  rw[hwB] at HMB HCB HOB HSB HCL ⊢
  clear hwB c4 f4 jm
  go_wp2_with fail
  refine HCL.o.mono ?_
  rintro e wS ⟨ks,nm,xs2,th,el,slx,slt,sle,M3,rfl,hax,hst,hse,hch3,hmk3,hb30,hb39,hwf3,hwr,hkj,hkq⟩
  have HN2:=Xj (Zp.one (k:=ks) (ln:=0) (nm:=nm) hax hst hse)
  obtain⟨ax,cx,_,rfl,_⟩:=hax
  obtain⟨ath,cth,_,rfl,_⟩:=hst
  obtain⟨ael,cel,_,rfl,_⟩:=hse
  have hyd:=Xj hch3
  have HMK3:=Xj hmk3
  have HG3:=Xj (And.intro hb30 (And.intro hb39 (And.intro hwf3 (And.intro hwr (And.intro hkj hkq)))))
  have HOS:=Xj (hyd.o.tree HMB.o HOB.o (.inr rfl) HGM.o.1 HGM.o.2)
  clear hch3 hmk3 hb30 hb39 hwf3 hwr hkj hkq
  have HOA:=Xj (HOS.o.alloc (.cells (stc ks 0 nm (.slice ax xs2.len cx) (.slice ath th.len cth) (.slice ael el.len cel)).toArray 110))
  have hsb:w.heap.size<=wS.heap.size+1:=by have:=HCH.o.size;have:=HCB.o.size;have:=hyd.o.size;omega
  go_wp2_with (at_builtin;refine wpList_append_lies _ rfl _ _ _ rfl w.heap.size 110 i0 _ 6 104 Tryz.underlying61 HI.o HZ0.o HZ1.o HZ2.o rfl (by omega) _ _ _ rfl HOA.o ⟨wS.heap.size,0,none⟩ 1 1 (stc ks 0 nm (.slice ax xs2.len cx) (.slice ath th.len cth) (.slice ael el.len cel)) rfl rfl (World.news_of_block (cs:=(stc ks 0 nm (.slice ax xs2.len cx) (.slice ath th.len cth) (.slice ael el.len cel)).toArray) (t:=110) (fr:=(0,0)) (heap_alloc_new wS _)) (by simp[Value.oneCell']) (by omega) (by unfold maxLen;omega) (by omega) (by simp;omega) _ rfl ?_;intro g9 c9 w9 hown9 hgrow9 hor9 hlt9;have HO9:=Xj hown9;have HG9:=Xj hgrow9;have HR9:=Xj hor9;clear hown9 hgrow9 hor9 hlt9)
  go_roundw
  case rel =>
   have hsz:w.heap.size<=wB.heap.size:=by have:=HCH.o.size;have:=HCB.o.size;omega
   refine⟨k+1,by omega,by go_num,Xj ⟨S.app (Zq ks 0 nm xs2 th el),xs++stc ks 0 nm (.slice ax xs2.len cx) (.slice ath th.len cth) (.slice ael el.len cel),M3,by rw[Sf.len_app,HLEN.o];rfl,HO9.o,?_,?_,?_,HG3.o.1,HG3.o.2.1,Sf.wf_app HW.o HG3.o.2.2.1,?_,?_,?_⟩⟩
   ·exact xjk HSB.o HOB.o hyd.o HGM.o.1 HGM.o.2 hsz HN2.o HG9.o HR9.o
   ·exact(((HCH.o.trans HCB.o).trans hyd.o).trans (Chg.of_below (Xw _ _))).own HG9.o (λ q hq=>(HOA.o.lt q hq).1)
   ·exact(HMK3.o.below (Xw _ _)).tree HG9.o (λ q hq=>⟨by have:=(HOA.o.lt q hq).1;have:=HGM.o.1;omega,Jw.of_own HOA.o (.inr rfl) hq⟩)
   ·have h1:=HN.o.2.1
    have h2:=HG3.o.2.2.2.1
    have h3:=HBZ.o
    rw[Sf.cst_app]
    omega
   ·have h1:=HN.o.2.2.1
    have h2:=HG3.o.2.2.2.2.1
    rw[Sf.nst_app];omega
   have h1:=HN.o.2.2.2
   have h2:=HG3.o.2.2.2.2.2
   rw[Sf.hgt_app];omega
  simp[intOf];omega
 have HFN:Xq (Hw gc gm deep M w (.returned u7) wr):=Xj ⟨S,u7,xs,M1,rfl,by rw[HLEN.o];exact HOWN.o,HS.o,HCH.o,HMK.o,by rw[HBZ.o];exact hz0,HN.o.1,HW.o,HN.o.2.1,HN.o.2.2.1,HN.o.2.2.2⟩
 by_cases hlt:k<most
 ·have dz:decide ((0:Int)<z)=false:=by rw[decide_eq_false_iff_not];exact λ h=>hgo ⟨hlt,h⟩
  go_wp2_with fail
  refine bodyPost_ret (v:=u7) (by simp[results,Tryz.results34,go_sem]) rfl ?_
  exact HFN.o
 obtain rfl:k=most:=by omega
 go_wp2_with fail
 refine bodyPost_ret (v:=u7) (by simp[results,Tryz.results34,go_sem]) rfl ?_
 exact HFN.o
theorem Zl {w:World} {gc gm base:Nat} {M:Mk} {S:Sf} {sl:Value} {xs:List Value} (ho:w.ownsRow base 110 6 sl S.len xs) (hS:Zp w (λ b=>TB base M b/\some b≠sl.ownBlock) S xs) (hM:Yg w gc gm M):Xf w (TB base M) S sl :=
 Xf.of_own (e:=110) (size:=6) ho (hS.keep (λ b hb _=>⟨rfl,hb.1⟩) (Nat.le_refl _)) (λ b hb=>⟨(ho.lt b hb).1,λ e=>(Jw.of_own ho (.inr rfl) hb).ne_own hM.lo ⟨by decide,by decide⟩ e.symm⟩)
theorem Ym {w:World} {P:Nat->Prop} {h:Hd} {ar:Fo} {sl:Value} {g:Nat} (hg:w.heap[g]?=some (.cells (hdc h sl).toArray 37 (0,0))) (ha:Xk w P ar sl) (hP:P g):Xk w P (Xb h ar) (.slice (some ⟨g,0,none⟩) 1 1) :=
 ⟨some ⟨g,0,none⟩,1,hdc h sl,rfl,Nat.le_refl _,by simp[maxLen],(λ e=>nomatch e),λ _=>⟨g,0,rfl,hP,Xv hg,λ j u hj=>by
  rw[Nat.zero_add,cell_of_row w g j _ _ _ hg,List.getElem?_toArray];exact hj⟩,Xk.one ha⟩
theorem Sd {wx:World} {gc gm:Nat} {M:Mk} (hM:Yg wx gc gm M) (hn:0<M.ls.length):∃ bl cl,M.vl=.slice (some ⟨bl,0,none⟩) M.ls.length cl/\M.ls.length<=cl/\cl<=9223372036854775807/\gm<bl/\bl<wx.heap.size /\
  ∀ W,wx.grownBy W (some gc)->W.cell? ⟨gm,0,none⟩=some (.pointer (some ⟨gc,0,none⟩))/\W.cell? ⟨gm,3,none⟩=some (.slice (some ⟨bl,0,none⟩) M.ls.length cl)/\∀ j x,M.ls[j]?=some x->W.cell? ⟨bl,j,none⟩=some (.string (st x)):=by
 have hne:Qw M.ls≠[]:=λ e=>by have:=congrArg List.length e;simp at this;rw[this] at hn;simp at hn
 obtain⟨g,cap,hv,hb,hl,h1,h2,_,hc⟩:=Km hM.lo hne
 have hjz:=hM.row
 rw[hv] at hjz
 have hlt:=hM.lt
 refine⟨g,cap,hv,h1,by have:=h2;unfold maxLen at this;omega,by omega,hl,λ W hW=>⟨hW.cell (cell_of_row _ _ 0 _ _ _ hjz) (by simp;omega),hW.cell (cell_of_row _ _ 3 _ _ _ hjz) (by simp;omega),λ j x hj=>?_⟩⟩
 have hs:(Qw M.ls)[j]?=some (.string (st x)):=by unfold Qw;rw[List.getElem?_map,hj];rfl
 exact hW.cell (hc j _ hs) (by simp;omega)
end Go.Proofs.YtldgghnjminhiaaGreatDoor
