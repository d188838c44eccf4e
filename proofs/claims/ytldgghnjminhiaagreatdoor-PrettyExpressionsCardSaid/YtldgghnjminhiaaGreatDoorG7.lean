/-
  WORDS, PLAIN LAWS and WALKS (Mrf QsW PsZ), pressed. (Filled in from templates of this repo.)
-/
import Derived.Deep.CutBlock
import Derived.Deep.CutRange
import Derived.Laws.AppendOwn
import Derived.Test.YtldgghnjminhiaaGreatDoorG2
import Derived.Test.YtldgghnjminhiaaGreatDoorG6
import Derived.OrdersHeld
import Derived.Deep.RegionLaw
namespace Go.Proofs.YtldgghnjminhiaaGreatDoor
open Go.ChangeAt Go.ChangeShapes Go.RowKit Go.WideShapes
set_option linter.unusedVariables false
set_option linter.unusedSimpArgs false
set_option maxRecDepth 100000
set_option maxHeartbeats 16000000
theorem Nu (n:Nat) (w:World):Calls Tryz.prog 131 #[.int .u8 (n:Int)] w λ e w'=>e=.returned (.bool (decide (97<=n/\n<=122)||decide (65<=n/\n<=90)))/\w'=w:=by
 by_cases h1:97<=n
 ·by_cases h2:n<=122
  ·have d1:decide ((97:Int)<=(n:Int))=true:=by rw[decide_eq_true_iff];omega
   have d2:decide ((n:Int)<=122)=true:=by rw[decide_eq_true_iff];omega
   have HE:Xq ((decide (97<=n/\n<=122)||decide (65<=n/\n<=90))=true):=Xj (by simp[h1,h2])
   clear h1 h2
   go_enter Tryz.func131,Tryz.ntmps131
   go_wp2
   go_ret
   exact⟨by rw[HE.o];rfl,rfl⟩
  have d1:decide ((97:Int)<=(n:Int))=true:=by rw[decide_eq_true_iff];omega
  have d2:decide ((n:Int)<=122)=false:=by rw[decide_eq_false_iff_not];omega
  have d3:decide ((65:Int)<=(n:Int))=true:=by rw[decide_eq_true_iff];omega
  have d4:decide ((n:Int)<=90)=false:=by rw[decide_eq_false_iff_not];omega
  have HE:Xq ((decide (97<=n/\n<=122)||decide (65<=n/\n<=90))=false):=Xj (by simp;omega)
  clear h1 h2
  go_enter Tryz.func131,Tryz.ntmps131
  go_wp2
  go_ret
  exact⟨by rw[HE.o];rfl,rfl⟩
 have d1:decide ((97:Int)<=(n:Int))=false:=by rw[decide_eq_false_iff_not];omega
 by_cases h3:65<=n
 ·have d3:decide ((65:Int)<=(n:Int))=true:=by rw[decide_eq_true_iff];omega
  have HE:Xq ((decide (97<=n/\n<=122)||decide (65<=n/\n<=90))=decide ((n:Int)<=90)):=Xj (by
   have:decide ((n:Int)<=90)=decide (n<=90):=by rw[decide_eq_decide];omega
   rw[this];simp[h1,h3])
  clear h1 h3
  go_enter Tryz.func131,Tryz.ntmps131
  go_wp2
  go_ret
  exact⟨by rw[HE.o];simp,rfl⟩
 have d3:decide ((65:Int)<=(n:Int))=false:=by rw[decide_eq_false_iff_not];omega
 have HE:Xq ((decide (97<=n/\n<=122)||decide (65<=n/\n<=90))=false):=Xj (by simp[h1,h3])
 clear h1 h3
 go_enter Tryz.func131,Tryz.ntmps131
 go_wp2
 go_ret
 exact⟨by rw[HE.o];rfl,rfl⟩
theorem Zk (b:UInt8) (w:World):Calls Tryz.prog 131 #[.int .u8 (b.toNat:Int)] w λ e w'=>e=.returned (.bool (lt8 b))/\w'=w:=Nu b.toNat w
theorem Pd (n:Nat) (w:World):Calls Tryz.prog 132 #[.int .u8 (n:Int)] w λ e w'=>e=.returned (.bool (decide (48<=n/\n<=57)))/\w'=w:=by
 by_cases h1:48<=n
 ·have d1:decide ((48:Int)<=(n:Int))=true:=by rw[decide_eq_true_iff];omega
  have HE:Xq (decide (48<=n/\n<=57)=decide ((n:Int)<=57)):=Xj (by rw[decide_eq_decide];omega)
  clear h1
  go_enter Tryz.func132,Tryz.ntmps132
  go_wp2
  go_ret
  exact⟨by rw[HE.o];simp,rfl⟩
 have d1:decide ((48:Int)<=(n:Int))=false:=by rw[decide_eq_false_iff_not];omega
 have HE:Xq (decide (48<=n/\n<=57)=false):=Xj (by simp[h1])
 clear h1
 go_enter Tryz.func132,Tryz.ntmps132
 go_wp2
 go_ret
 exact⟨by rw[HE.o];rfl,rfl⟩
theorem Qf (b:UInt8) (w:World):Calls Tryz.prog 132 #[.int .u8 (b.toNat:Int)] w λ e w'=>e=.returned (.bool (dg8 b))/\w'=w:=Pd b.toNat w
theorem Rf (s:Bt) (ls:List Bt) (n cap:Nat) (a:Option Addr) (hn:n=ls.length) (hN:n<=maxLen) (w:World) (H:Yh w a (Uu ls)) :
  Calls Tryz.prog 163 #[.string (st s),.slice a n cap] w λ e w'=>e=.returned (.bool (ls.contains s))/\w'=w:=by
 have hN':n<=9223372036854775807:=hN
 have HN:=Xj hn
 clear hn hN
 go_enter Tryz.func163,Tryz.ntmps163
 go_wp2_with fail
 go_loopw [5] (λ v5 wr=>∃ k:Nat,k<=n/\v5=.int .i64 k/\wr=w/\Xq (∀ j,j<k->ls.getD j []≠s)) (λ v _=>n-(intOf v).toNat)
 case atStart=>exact⟨0,by omega,rfl,rfl,Xj (λ j hj=>absurd hj (by omega))⟩
 obtain⟨k,hk,rfl,rfl,HA⟩:=hrel
 by_cases hlt:k<n
 ·have hkl:k<ls.length:=HN.o▸hlt
  obtain⟨b,off,rfl,hb,hc⟩:=H.str k hkl
  have hc1:=hc k hkl
  have HK:=Xj hkl
  clear hkl
  by_cases hz:ls.getD k []=s
  ·have HE:=Xj (Gc HK.o hz)
   rw[hz] at hc1
   clear hz hc
   go_wp2_with fail
   go_ret
   exact⟨by rw[HE.o];rfl,rfl⟩
  have HZ:=Xj hz
  obtain⟨x,hx⟩:∃ x,ls.getD k []=x:=⟨_,rfl⟩
  have HX:=Xj hx
  rw[hx] at hc1 hz
  have hne:(x==s)=false:=by
   rw[beq_eq_false_iff_ne];exact hz
  have HM:Xq (∀ j,j<k+1->ls.getD j []≠s):=Xj (λ j hj=>by
   by_cases e:j=k
   ·subst e;exact HZ.o
   exact HA.o j (by omega))
  clear hx hz hc
  go_wp2_with fail
  go_roundw
  case rel=>exact⟨k+1,by omega,by go_num,by first|rfl|trivial,HM⟩
  simp[intOf];omega
 obtain rfl:k=n:=by omega
 have HE:=Xj (Wk (ls:=ls) (s:=s) (λ j hj=>HA.o j (by rw[HN.o];exact hj)))
 go_wp2_with fail
 go_ret
 exact⟨by rw[HE.o];rfl,rfl⟩
theorem Wl (s:Bt) (w:World):Calls Tryz.prog 133 #[.string (st s)] w λ e w'=>e=.returned (.bool (isW s))/\Below w.heap.size w w':=by
 go_enter Tryz.func133,Tryz.ntmps133
 go_wp2_with fail
 refine(Rf s wordsL 10 10 _ rfl (by decide) _ (Yh.fresh w (Uu wordsL) _)).mono ?_
 rintro e w1 ⟨rfl,rfl⟩
 rw[show wordsL.contains s=isW s from rfl]
 go_wp2_with fail
 go_ret
 exact⟨rfl,Xk _ _⟩
theorem Mz (s:Bt) (w:World):Calls Tryz.prog 136 #[.string (st s)] w λ e w'=>e=.returned (.bool (isS s))/\Below w.heap.size w w':=by
 go_enter Tryz.func136,Tryz.ntmps136
 go_wp2_with fail
 refine(Rf s signsL 22 22 _ rfl (by decide) _ (Yh.fresh w (Uu signsL) _)).mono ?_
 rintro e w1 ⟨rfl,rfl⟩
 rw[show signsL.contains s=isS s from rfl]
 go_wp2_with fail
 go_ret
 exact⟨rfl,Xk _ _⟩
def rnV (l:Bt):Int:=if Zb l<9223372036854775808 then (Zb l:Int) else 0
def rnO (l:Bt):Bool:=decide (Zb l<9223372036854775808)
theorem Hf (l:Bt) (hd:Kr l) (hl:l.length<=281474976710656) (w:World) :
  Calls Tryz.prog 135 #[.string (st l)] w λ e w'=>e=.returned (.tuple #[.int .i64 (rnV l),.bool (rnO l)])/\w'=w:=by
 have HD:=Xj hd
 have hs:(st l).size=l.length:=rfl
 obtain⟨s,hS⟩:∃ s,s=st l:=⟨_,rfl⟩
 obtain⟨m,hm⟩:∃ m,m=l.length:=⟨_,rfl⟩
 have hsz:s.size=m:=by rw[hS,hm];rfl
 rw[<- hS]
 have HS:=Xj hS
 have HM:=Xj hm
 rw[<- hm] at hl
 clear hs hd hS hm
 have HSZ:=Xj hsz
 have hsl:s.size<=281474976710656:=by omega
 clear hsz
 go_enter Tryz.func135,Tryz.ntmps135
 go_wp2_with fail
 go_loopw [4,5] (λ v4 v5 wr=>∃ k n:Nat,k<=s.size/\v5=.int .i64 k/\v4=.int .i64 n/\wr=w/\n<9223372036854775808/\Xq (n=Zb (l.take k))) (λ v4 v5 _=>s.size-(intOf v5).toNat)
 case atStart=>exact⟨0,0,by omega,rfl,rfl,rfl,by omega,Xj rfl⟩
 obtain⟨k,n,hk,rfl,rfl,rfl,hn,HN⟩:=hrel
 by_cases hlt:k<s.size
 ·obtain⟨b,hb⟩:∃ b,s[k]=b:=⟨_,rfl⟩
  have hkb:l[k]?=some b:=by
   have:=Zg s k hlt
   rw[hb,HS.o] at this
   simpa using this
  have hbd:=HD.o b (List.mem_of_getElem? hkb)
  have HKB:=Xj hkb
  clear hkb
  have hu:IntKind.u8.wrap ((b.toNat:Int)-48)=(b.toNat:Int)-48:=by unfold IntKind.wrap;simp[IntKind.signed,IntKind.bits];omega
  have HT:Xq (Zb (l.take (k+1))=10*n+(b.toNat-48)):=Xj (by rw[Kc l k b HKB.o,HN.o])
  have HLE:=Xj (Ew l (k+1))
  by_cases hov:(9223372036854775807-((b.toNat:Int)-48))/10<(n:Int)
  ·have d1:decide ((9223372036854775807-((b.toNat:Int)-48))/10<(n:Int))=true:=by simpa using hov
   have HB:Xq (rnV l=0/\rnO l=false):=Xj (by have h1:=HT.o;have h2:=HLE.o;have h3:¬ Zb l<9223372036854775808:=(by omega);exact⟨if_neg h3,decide_eq_false h3⟩)
   clear hov
   go_wp2_with fail
   go_ret2
   exact⟨by rw[HB.o.1,HB.o.2];rfl,rfl⟩
  have d1:decide ((9223372036854775807-((b.toNat:Int)-48))/10<(n:Int))=false:=by simpa using hov
  have hn2:10*n+(b.toNat-48)<9223372036854775808:=by omega
  have hn3:10*(n:Int)+((b.toNat:Int)-48)<=9223372036854775807:=by omega
  have hn4:10*(n:Int)<=9223372036854775807:=by omega
  have HC:Xq (10*(n:Int)+((b.toNat:Int)-48)=((10*n+(b.toNat-48):Nat):Int)):=Xj (by omega)
  clear hov
  go_wp2_with fail
  go_roundw
  case rel=>exact⟨k+1,10*n+(b.toNat-48),by omega,by go_num,by rw[HC.o],by first|rfl|trivial,hn2,Xj HT.o.symm⟩
  simp[intOf];omega
 obtain rfl:k=s.size:=by omega
 have HE:Xq (rnV l=(n:Int)/\rnO l=true):=Xj (by
  have h2:s.size=l.length:=by rw[HS.o];rfl
  have h3:=HN.o;rw[h2,List.take_length] at h3;rw[h3] at hn ⊢;exact⟨if_pos hn,decide_eq_true hn⟩)
 go_wp2_with fail
 go_ret2
 exact⟨by rw[HE.o.1,HE.o.2];rfl,rfl⟩
theorem Tj (l:Bt) (b0:UInt8) (r:Bt) (hl0:l=b0::r) (h0:lt8 b0=true) (hw:isW l=false) (hqq:∀ c∈l,in8 c=true) (hl:l.length<=281474976710656) (w:World) :
  Calls Tryz.prog 134 #[.string (st l)] w λ e w'=>e=.returned (.bool (decide (l.length<=32)))/\Below w.heap.size w w':=by
 have hxz:=Xj hqq
 have HW:=Xj hw
 have H0:=Xj h0
 have HCW:=Xj (λ (v:World)=>Wl l v)
 have hs:(st l).size=l.length:=rfl
 obtain⟨s,hS⟩:∃ s,s=st l:=⟨_,rfl⟩
 have hsz:s.size=l.length:=by rw[hS];rfl
 rw[<- hsz] at hl ⊢
 have hqc:0<s.size:=by rw[hsz,hl0];simp
 have hb0:s[0]=b0:=by
  have h1:=Zg s 0 hqc
  have h2:s.data.toList=b0::r:=by rw[hS,<- hl0]
  rw[h2] at h1
  simpa using h1.symm
 rw[<- hS] at HCW ⊢
 have HS:=Xj hS
 clear hS hs hsz hqq hw h0
 clear hl0
 have hz:((s.size:Int)==0)=false:=by rw[beq_eq_false_iff_ne];omega
 have hz2:¬ s=ByteArray.empty:=by intro e;rw[e] at hqc;exact absurd hqc (by decide)
 by_cases Ha:s.size<=32
 ·have d1:decide (s.size<=32)=true:=by simpa using Ha
  have d2:decide (32<s.size)=false:=by simp;omega
  have d3:decide ((32:Int)<(s.size:Int))=false:=by simp;omega
  have HR:Xq (decide (s.size<=32)=true):=Xj d1
  rw[d1]
  clear d1
  go_enter Tryz.func134,Tryz.ntmps134
  go_wp2_with fail
  try rw[hb0]
  refine(Zk b0 _).mono ?_
  rintro e w1 ⟨rfl,rfl⟩
  rw[H0.o]
  go_wp2_with fail
  refine(HCW.o _).mono ?_
  rintro e w1 ⟨rfl,hb1⟩
  rw[HW.o]
  go_wp2_with fail
  go_loopw [3] (λ v3 wr=>∃ k:Nat,k<=s.size/\v3=.int .i64 k/\wr=w1) (λ v3 _=>s.size-(intOf v3).toNat)
  case atStart=>exact⟨0,by omega,rfl,rfl⟩
  obtain⟨k,hk,rfl,rfl⟩:=hrel
  by_cases hlt:k<s.size
  ·obtain⟨b,hb⟩:∃ b,s[k]=b:=⟨_,rfl⟩
   have hin:in8 b=true:=by
    have h1:=Zg s k hlt
    rw[hb,HS.o] at h1
    exact hxz.o b (List.mem_of_getElem? h1)
   go_wp2_with fail
   try rw[hb]
   refine(Zk b _).mono ?_
   rintro e w2 ⟨rfl,rfl⟩
   cases h1:lt8 b
   ·go_wp2_with fail
    try rw[hb]
    refine(Qf b _).mono ?_
    rintro e w2 ⟨rfl,rfl⟩
    cases h2:dg8 b
    ·have h95:b.toNat=95:=by
      unfold in8 at hin;rw[h1,h2] at hin;simpa using hin
     have hd:((b.toNat:Int) != 95)=false:=by rw[h95];rfl
     go_wp2_with fail
     go_roundw
     case rel=>exact⟨k+1,by omega,by go_num,by first|rfl|trivial⟩
     simp[intOf];omega
    go_wp2_with fail
    go_roundw
    case rel=>exact⟨k+1,by omega,by go_num,by first|rfl|trivial⟩
    simp[intOf];omega
   go_wp2_with fail
   go_roundw
   case rel=>exact⟨k+1,by omega,by go_num,by first|rfl|trivial⟩
   simp[intOf];omega
  obtain rfl:k=s.size:=by omega
  go_wp2_with fail
  go_ret
  exact⟨rfl,hb1⟩
 have d1:decide (s.size<=32)=false:=by simpa using Ha
 have d2:decide (32<s.size)=true:=by simp;omega
 have d3:decide ((32:Int)<(s.size:Int))=true:=by simp;omega
 rw[d1]
 clear d1
 go_enter Tryz.func134,Tryz.ntmps134
 go_wp2_with fail
 go_ret
 exact⟨rfl,Below.refl _ _⟩
def Em (l:Bt) (i ln:Int) (w:World) (e:Ending) (w':World):Prop :=
 Below w.heap.size w w'/\∃ (k x v:Int) (t:Bt) (m:Int) (ok:Bool),e=.returned (.tuple #[tkv k x v t,.int .i64 m,.bool ok]) /\
  ((ok=true/\x=ln/\m=i+t.length/\nxI l=(k,v,t,true))\/(ok=false/\(nxI l).2.2.2=false))
theorem Ts {p:UInt8->Bool} {l:Bt} {i k:Nat} (hik:i<=k) (hk:k<=l.length) (h:∀ j,i<=j->j<k->∃ b,l[j]?=some b/\p b=true) (he:∀ b,l[k]?=some b->p b=false):run p (l.drop i)=(l.take k).drop i:=by
 rw[List.drop_take]
 have hj:∀ j,j<k-i->∃ b,(l.drop i)[j]?=some b/\p b=true:=λ j hj=>by
  rw[List.getElem?_drop];exact h (i+j) (by omega) (by omega)
 by_cases hkl:k<l.length
 ·refine Ej hj (l[k]) ?_ (he _ (List.getElem?_eq_getElem hkl))
  rw[List.getElem?_drop,show i+(k-i)=k by omega,List.getElem?_eq_getElem hkl]
 have e:k-i=(l.drop i).length:=by simp;omega
 rw[e,List.take_length]
 exact Vr (λ j hj2=>hj j (by rw[e];exact hj2))
theorem Zd {p:UInt8->Bool} {l:Bt} {i k:Nat} (hik:i<=k) (hk:k<=l.length) (h:∀ j,i<=j->j<k->∃ b,l[j]?=some b/\p b=true) (he:∀ b,l[k]?=some b->p b=false):i+(run p (l.drop i)).length=k:=by
 rw[Ts hik hk h he];simp;omega
theorem Ud {p:UInt8->Bool} {l:Bt} {i k:Nat} {c:UInt8} (h:∀ j,i<=j->j<k->∃ b,l[j]?=some b/\p b=true) (hc:l[k]?=some c) (hp:p c=true):∀ j,i<=j->j<k+1->∃ b,l[j]?=some b/\p b=true:=λ j h1 h2=>by
 by_cases e:j=k
 ·subst e;exact⟨c,hc,hp⟩
 exact h j h1 (by omega)
theorem Au {t:Bt} (h:isW t=true):t.length<=32:=by
 unfold isW at h
 rw[List.contains_iff_mem] at h
 exact(show ∀ x∈wordsL,x.length<=32 by decide) t h
theorem Pm {p q:UInt8->Bool} (h:∀ b,p b=true->q b=true) (l:Bt):(run p l).length<=(run q l).length:=by
 induction l with
 | nil=>exact Nat.le_refl _
 | cons x l ih =>
  unfold run at ih ⊢
  rw[List.takeWhile_cons,List.takeWhile_cons]
  by_cases hx:p x=true
  ·rw[if_pos hx,if_pos (h x hx)];simp;exact ih
  rw[if_neg hx];simp
theorem Et (l:Bt):Kr (run dg8 l):=λ c hc=>by
 have:=List.all_eq_true.1 (List.all_takeWhile (p:=dg8) (l:=l)) c hc
 unfold dg8 at this
 simpa using this
theorem Cp {l:Bt} {b:UInt8} {rest:Bt} (hl:l=b::rest) (h1:lt8 b=false) (h2:dg8 b=true) (t:Bt) (ht:t=run dg8 l) (bad:Bool)
  (hjd:bad=(decide (t.length<(run in8 l).length)||(decide (b.toNat=48)&&decide (1<t.length)))) :
  ((rnO t && !bad)=true/\nxI l=(2,rnV t,t,true))\/((rnO t && !bad)=false/\(nxI l).2.2.2=false):=by
 have hnx:nxI l=(match Lib.atoiAll t with
   | .ok v=>(2,v,t,(Lib.itoa v==t)&&decide ((run in8 l).length=t.length))
   | _=>(2,0,t,false)):=by
  rw[ht,hl];show (if lt8 b then _ else _)=_;rw[h1];simp only[Bool.false_eq_true,if_false];rw[h2];simp only[if_true];rfl
 have hD:Kr t:=ht▸Et l
 obtain⟨r,hr⟩:∃ r,t=b::r:=by
  rw[ht,hl];unfold run;rw[List.takeWhile_cons,h2,if_pos rfl];exact⟨_,rfl⟩
 have hle:t.length<=(run in8 l).length:=by
  rw[ht];exact Pm (λ c hc=>by unfold in8;rw[hc];simp) l
 have h48:48<=b.toNat:=(hD b (by rw[hr];simp)).1
 rw[hnx,Gh t hD (by rw[hr];simp)]
 by_cases hn:Zb t<9223372036854775808
 ·rw[if_pos hn,show rnO t=true from decide_eq_true hn,show rnV t=(Zb t:Int) from if_pos hn,Bool.true_and]
  dsimp only
  have hi:(Lib.itoa (Zb t:Int)==t)=decide (49<=b.toNat\/r=[]):=by
   rw[hr] at hD ⊢;exact Rm b r hD
  have hz:((Lib.itoa (Zb t:Int)==t)&&decide ((run in8 l).length=t.length)) = !bad:=by
   rw[hi,hjd]
   have hr1:(1<t.length)↔¬ r=[]:=by rw[hr];cases r<;>simp
   rw[Bool.eq_iff_iff]
   simp only[Bool.and_eq_true,decide_eq_true_eq,Bool.not_eq_true',Bool.or_eq_false_iff,Bool.and_eq_false_iff,decide_eq_false_iff_not,hr1]
   constructor
   ·rintro⟨ha,hb⟩
    refine⟨by omega,?_⟩
    rcases ha with ha|ha
    ·exact .inl (by omega)
    exact .inr (λ h=>h ha)
   rintro⟨ha,hb⟩
   refine⟨?_,by omega⟩
   rcases hb with hb|hb
   ·exact .inl (by omega)
   exact .inr (Classical.not_not.1 hb)
  rw[hz]
  cases bad
  ·exact .inl ⟨rfl,rfl⟩
  exact .inr ⟨rfl,rfl⟩
 rw[if_neg hn,show rnO t=false from decide_eq_false hn]
 exact .inr ⟨rfl,rfl⟩
theorem Es {p q:UInt8->Bool} (hpq:∀ b,p b=true->q b=true) (L:Bt) (c:UInt8) (hc:L[(run p L).length]?=some c):decide ((run p L).length<(run q L).length)=q c:=by
 induction L with
 | nil=>simp at hc
 | cons x L ih =>
  unfold run at ih hc ⊢
  rw[List.takeWhile_cons] at hc ⊢
  by_cases hx:p x=true
  ·rw[if_pos hx] at hc ⊢
   rw[List.takeWhile_cons,if_pos (hpq x hx)]
   have:=ih (by simpa using hc)
   rw[<- this]
   simp
  rw[if_neg hx] at hc ⊢
  have:x=c:=by simpa using hc
  subst this
  rw[List.takeWhile_cons]
  cases hq:q x<;>simp
theorem Ky (w:World) (ln:Int):∀ W,W=((w.alloc (.cells #[.int .i64 0,.int .i64 0,.int .i64 0,.string { data := #[] }] 103)).alloc (.cells #[.int .i64 0,.int .i64 ln,.int .i64 0,.string { data := #[] }] 103))->Below w.heap.size w W/\W.heap[w.heap.size]?=some (.cells #[.int .i64 0,.int .i64 0,.int .i64 0,.string { data := #[] }] 103 (0,0))/\W.heap[w.heap.size+1]?=some (.cells #[.int .i64 0,.int .i64 ln,.int .i64 0,.string { data := #[] }] 103 (0,0)):=λ W hW=>by
 subst hW
 refine⟨((Below.refl _ _).alloc (Nat.le_refl _) _).alloc (by simp) _,?_,?_⟩
 ·rw[Below.heap_alloc _ _ _ (by simp)];exact heap_alloc_new w _
 have:=heap_alloc_new (w.alloc (.cells #[.int .i64 0,.int .i64 0,.int .i64 0,.string { data := #[] }] 103)) (.cells #[.int .i64 0,.int .i64 ln,.int .i64 0,.string { data := #[] }] 103)
 simpa using this
theorem Eg (s:ByteArray) (i:Nat) (ln:Int) (hs:s.size<=281474976710656) (hi:i<s.size) (b:UInt8) (hb:s[i]=b) (h1:lt8 b=true) (w:World):Calls Tryz.prog 82 #[.string s,.int .i64 i,.int .i64 ln] w (Em (s.data.toList.drop i) i ln w):=by
 have H1:=Xj h1
 clear h1
 have HZ:=Xj (Ky w ln)
 obtain⟨t,ht⟩:∃ t,t=run in8 (s.data.toList.drop i):=⟨_,rfl⟩
 obtain⟨K,hK⟩:∃ K,K=i+t.length:=⟨_,rfl⟩
 have HX:Xq (s.extract i K=st t):=Xj (by
  rw[Jw,List.drop_take,hK,Nat.add_sub_cancel_left,ht]
  congr 1
  unfold run
  exact(List.prefix_iff_eq_take.1 (List.takeWhile_prefix _)).symm)
 have HTL:Xq (t.length<=s.size-i):=Xj (by rw[ht];refine Nat.le_trans (Jy _ _) ?_;rw[List.length_drop,st_len];exact Nat.le_refl _)
 have hxz:Xq (∀ c∈t,in8 c=true):=Xj (λ c hc=>by rw[ht] at hc;exact List.all_eq_true.1 List.all_takeWhile c hc)
 have hgi:=Zg s i hi
 rw[hb] at hgi
 obtain⟨r0,hr0⟩:∃ r0,t=b::r0:=by
  have hd:s.data.toList.drop i=b::s.data.toList.drop (i+1):=by
   obtain⟨hlt,he⟩:=List.getElem?_eq_some_iff.1 hgi
   rw[List.drop_eq_getElem_cons hlt,he]
  rw[ht,hd]
  unfold run
  rw[List.takeWhile_cons,show in8 b=true by unfold in8;rw[H1.o];rfl,if_pos rfl]
  exact⟨_,rfl⟩
 have HT0:=Xj hr0
 have HNX:Xq (nxI (s.data.toList.drop i)=(if isW t then 3 else 1,0,t,decide (t.length<=32))):=Xj (by
  have hd:s.data.toList.drop i=b::s.data.toList.drop (i+1):=by
   obtain⟨hlt,he⟩:=List.getElem?_eq_some_iff.1 hgi
   rw[List.drop_eq_getElem_cons hlt,he]
  rw[hd] at ht ⊢
  show (if lt8 b then _ else _)=_
  rw[H1.o,if_pos rfl,<- ht])
 have HTM:Xq (t.length<=281474976710656):=Xj (by have:=HTL.o;omega)
 clear hr0 hgi
 have HT:=Xj ht
 have HK:=Xj hK
 clear hK ht
 go_enter Tryz.func82,Tryz.ntmps82
 go_wp2_with fail
 refine(Zk b _).mono ?_
 rintro e w1 ⟨rfl,rfl⟩
 rw[H1.o]
 obtain⟨wa,hwa⟩:∃ wa,wa=((w.alloc (.cells #[.int .i64 0,.int .i64 0,.int .i64 0,.string { data := #[] }] 103)).alloc (.cells #[.int .i64 0,.int .i64 ln,.int .i64 0,.string { data := #[] }] 103)):=⟨_,rfl⟩
 rw[<- hwa]
 obtain⟨hba,hb2,hb5⟩:=HZ.o wa hwa
 obtain⟨g5,hg5⟩:∃ g5,w.heap.size+1=g5:=⟨_,rfl⟩
 obtain⟨g2,hg2⟩:∃ g2,w.heap.size=g2:=⟨_,rfl⟩
 rw[hg5] at hb5 ⊢
 rw[hg2] at hb2
 try rw[hg2]
 have HBA:=Xj hba
 have HG:Xq (w.heap.size<=g2/\w.heap.size<=g5/\g2≠g5):=Xj (by omega)
 have HB2:=Xj hb2
 have HB5:=Xj hb5
 clear hwa hba hg5 hg2 hb2 hb5
 go_upto_block 1 with fail
 go_cut [9] from 22 to 45 (λ v9 wx=>v9=.int .i64 K/\wx=wa)
 case first =>
  go_wp2_with fail
  go_loopw [9] (λ v9 wr=>∃ k:Nat,i<=k/\k<=s.size/\v9=.int .i64 k/\wr=wa/\Xq (∀ j,i<=j->j<k->∃ b,s.data.toList[j]?=some b/\in8 b=true)) (λ v _=>s.size-(intOf v).toNat)
  case atStart=>exact⟨i,by omega,by omega,rfl,rfl,Xj (λ j h1 h2=>absurd h2 (by omega))⟩
  obtain⟨k,hk0,hk,rfl,rfl,HA⟩:=hrel
  by_cases hlt:k<s.size
  ·have HGK:=Xj (Zg s k hlt)
   obtain⟨c,hc⟩:∃ c,s[k]=c:=⟨_,rfl⟩
   rw[hc] at HGK
   go_wp2_with fail
   try rw[hc]
   refine(Zk c _).mono ?_
   rintro e w1 ⟨rfl,rfl⟩
   cases h1:lt8 c
   ·go_wp2_with fail
    try rw[hc]
    refine(Qf c _).mono ?_
    rintro e w1 ⟨rfl,rfl⟩
    cases h2:dg8 c
    ·by_cases h95:c.toNat=95
     ·have hd:((c.toNat:Int)==95)=true:=by rw[h95];rfl
      have HIN:Xq (in8 c=true):=Xj (by unfold in8;simp[h95])
      go_wp2_with fail
      go_roundw
      case rel=>exact⟨k+1,by omega,by omega,by go_num,by first|rfl|trivial,Xj (Ud HA.o HGK.o HIN.o)⟩
      simp[intOf];omega
     have hd:((c.toNat:Int)==95)=false:=by rw[beq_eq_false_iff_ne];omega
     have HIN:Xq (in8 c=false):=Xj (by unfold in8;simp[h1,h2,h95])
     have HKK:Xq (K=k):=Xj (by rw[HK.o,HT.o];exact Zd hk0 (by rw[st_len];exact hk) HA.o (λ b hb=>by rw[HGK.o] at hb;injection hb with hb;subst hb;exact HIN.o))
     go_wp2_with fail
     go_meet
     exact⟨by rw[HKK.o],rfl⟩
    have HIN:Xq (in8 c=true):=Xj (by unfold in8;simp[h2])
    go_wp2_with fail
    go_roundw
    case rel=>exact⟨k+1,by omega,by omega,by go_num,by first|rfl|trivial,Xj (Ud HA.o HGK.o HIN.o)⟩
    simp[intOf];omega
   have HIN:Xq (in8 c=true):=Xj (by unfold in8;simp[h1])
   go_wp2_with fail
   go_roundw
   case rel=>exact⟨k+1,by omega,by omega,by go_num,by first|rfl|trivial,Xj (Ud HA.o HGK.o HIN.o)⟩
   simp[intOf];omega
  obtain rfl:k=s.size:=by omega
  have HKK:Xq (K=s.size):=Xj (by rw[HK.o,HT.o];exact Zd hk0 (by rw[st_len];exact hk) HA.o (λ b hb=>by
   have:=(List.getElem?_eq_some_iff.1 hb).1
   rw[st_len] at this;omega))
  go_wp2_with fail
  go_meet
  exact⟨by rw[HKK.o],rfl⟩
 obtain⟨rfl,rfl⟩:=hcut
 have hxk:=HX.o
 have hK1:i<=K:=by have:=HK.o;omega
 have hK2:K<=s.size:=by have h1:=HK.o;have h2:=HTL.o;omega
 have h5n:=HB5.o
 have k0:=cell_of_row _ _ 0 _ _ _ h5n
 have k1:=cell_of_row _ _ 1 _ _ _ h5n
 have k2:=cell_of_row _ _ 2 _ _ _ h5n
 have k3:=cell_of_row _ _ 3 _ _ _ h5n
 have j0:=frozen_of_row _ g5 0 _ _ h5n
 have j3:=frozen_of_row _ g5 3 _ _ h5n
 have jl:=Xp h5n
 go_wp2_with fail
 have h5a:=heap_setCell_same _ g5 0 _ _ (.int .i64 1) (heap_setCell_same _ g5 3 _ _ (.string (st t)) h5n)
 have h2a:=(heap_setCell_other (wc.setCell ⟨g5,3,none⟩ (.string (st t))) ⟨g5,0,none⟩ g2 (.int .i64 1) (λ e=>HG.o.2.2 e)).trans ((heap_setCell_other wc ⟨g5,3,none⟩ g2 (.string (st t)) (λ e=>HG.o.2.2 e)).trans HB2.o)
 have hbB:=(HBA.o.setCell (p:=⟨g5,3,none⟩) HG.o.2.1 (.string (st t))).setCell (p:=⟨g5,0,none⟩) HG.o.2.1 (.int .i64 1)
 obtain⟨wB,hwB⟩:∃ wB,(wc.setCell ⟨g5,3,none⟩ (.string (st t))).setCell ⟨g5,0,none⟩ (.int .i64 1)=wB:=⟨_,rfl⟩
 rw[hwB] at h5a h2a hbB ⊢
 refine(Wl t _).mono ?_
 rintro e wC ⟨rfl,hbC⟩
 have h5c:=(hbC.block g5 (Xp h5a)).trans h5a
 have h2c:=(hbC.block g2 (Xp h2a)).trans h2a
 have HBC:=Xj (hbB.trans (hbC.mono hbB.size))
 clear hwB h5a h2a hbB hbC k0 k1 k2 k3 j0 j3 jl h5n
 clear wB
 have HB2:=Xj h2c
 have HB5:=Xj h5c
 clear h2c
 have k0:=cell_of_row _ _ 0 _ _ _ h5c
 have k1:=cell_of_row _ _ 1 _ _ _ h5c
 have k2:=cell_of_row _ _ 2 _ _ _ h5c
 have k3:=cell_of_row _ _ 3 _ _ _ h5c
 have j0:=frozen_of_row _ g5 0 _ _ h5c
 have jl:=Xp h5c
 clear h5c
 cases hW:isW t
 ·have HNM:=Xj (λ W=>Tj t b r0 HT0.o H1.o hW (λ c hc=>hxz.o c hc) HTM.o W)
  have HAN:Xq (((decide (t.length<=32))=true/\ln=ln/\(K:Int)=(i:Int)+t.length/\nxI (s.data.toList.drop i)=(1,0,t,true))\/((decide (t.length<=32))=false/\(nxI (s.data.toList.drop i)).2.2.2=false)):=Xj (by
   rw[HNX.o,hW]
   cases h:decide (t.length<=32)
   ·exact .inr ⟨rfl,rfl⟩
   exact .inl ⟨rfl,rfl,by have:=HK.o;omega,rfl⟩)
  clear hW
  go_upto_region 9 with fail
  obtain⟨wD,hwD⟩:∃ wD,wC=wD:=⟨_,rfl⟩
  rw[hwD] at HBC HB2 HB5 k0 k1 k2 k3 j0 jl ⊢
  have HBD:=HBC
  clear hwD
  refine wp_region_held_drew (S:=(λ w'=>w'.cell? ⟨g5,0,none⟩=some (.int .i64 1)/\w'.cell? ⟨g5,1,none⟩=some (.int .i64 ln)/\w'.cell? ⟨g5,2,none⟩=some (.int .i64 0)/\w'.cell? ⟨g5,3,none⟩=some (.string (st t)))) (by kernel_rfl) ⟨k0,k1,k2,k3⟩ (λ hJ=>?_)
  refine tkH 0 56 ?_
  refine tkH 1 57 ?_
  refine tkH 2 58 ?_
  refine tkH 3 59 ?_
  refine tkH 4 60 ?_
  refine tkH 5 61 ?_
  refine tkH 6 62 ?_
  refine tkH 7 63 ?_
  refine rdH 8 λ K hK=>?_
  go_simp
  refine(HNM.o _).mono ?_
  rintro e wy ⟨rfl,hby0⟩
  have hby:=(Below.refl wD.heap.size wD).drew.trans (hby0.mono (Nat.le_refl _))
  refine goH hK ⟨(hby.cell (p:=⟨g5,0,none⟩) jl).trans k0,(hby.cell (p:=⟨g5,1,none⟩) jl).trans k1,(hby.cell (p:=⟨g5,2,none⟩) jl).trans k2,(hby.cell (p:=⟨g5,3,none⟩) jl).trans k3⟩ λ hJ=>?_
  clear hK K hby0
  refine tkH 9 65 ?_
  refine rdH 10 λ K hK=>?_
  have h2n:=(hby.block g2 (Xp HB2.o)).trans HB2.o
  have HBY:=Xj (HBD.o.trans (hby.mono HBD.o.size))
  clear hby
  have c0:=cell_of_row _ _ 0 _ _ _ h2n
  have c1:=cell_of_row _ _ 1 _ _ _ h2n
  have c2:=cell_of_row _ _ 2 _ _ _ h2n
  have c3:=cell_of_row _ _ 3 _ _ _ h2n
  have f0:=frozen_of_row _ g2 0 _ _ h2n
  have f1:=frozen_of_row _ g2 1 _ _ h2n
  have f2:=frozen_of_row _ g2 2 _ _ h2n
  have f3:=frozen_of_row _ g2 3 _ _ h2n
  have jl2:=Xp h2n
  go_simp
  refine goH hK ⟨Xf HG.o.2.2 hJ.1,Xf HG.o.2.2 hJ.2.1,Xf HG.o.2.2 hJ.2.2.1,Xf HG.o.2.2 hJ.2.2.2⟩ λ hJ=>?_
  clear hK K
  refine tkH 11 7 ?_
  refine tkH 12 8 ?_
  refine wpAnyH_done (by kernel_rfl) ?_ _
  refine Xz ?_
  have hY:=Ym (v0:=.int .i64 1) (v1:=.int .i64 ln) (v2:=.int .i64 0) (v3:=.string (st t)) h2n
  have Hi:=Yp (v0:=.int .i64 1) (v1:=.int .i64 ln) (v2:=.int .i64 0) (v3:=.string (st t)) HBY.o HG.o.1
  have q0:=cell_of_row _ _ 0 _ _ _ hY
  have q1:=cell_of_row _ _ 1 _ _ _ hY
  have q2:=cell_of_row _ _ 2 _ _ _ hY
  have q3:=cell_of_row _ _ 3 _ _ _ hY
  have Ho:=Xj Hi
  obtain⟨wn,hwn⟩:∃ wn,set4 wy g2 (.int .i64 1) (.int .i64 ln) (.int .i64 0) (.string (st t))=wn:=⟨_,rfl⟩
  have He:=hwn
  unfold set4 at He
  rw[He]
  rw[hwn] at Ho q0 q1 q2 q3
  clear hwn He hY Hi h2n c0 c1 c2 c3 f0 f1 f2 f3 jl2 k0 k1 k2 k3 jl hJ
  go_wp2_with fail
  refine bodyPost_ret (v:=.tuple #[tkv 1 ln 0 t,.int .i64 K,.bool (decide (t.length<=32))]) (by simp[results,Tryz.results82,go_sem,q0,q1,q2,q3]) rfl ?_
  exact⟨Ho.o,1,ln,0,t,K,(decide (t.length<=32)),rfl,by rcases HAN.o with h|h;exact .inl ⟨by first|exact h.1|rfl,rfl,h.2.2⟩;exact .inr h⟩
 have HAN:Xq ((true=true/\ln=ln/\(K:Int)=(i:Int)+t.length/\nxI (s.data.toList.drop i)=(3,0,t,true))\/(true=false/\(nxI (s.data.toList.drop i)).2.2.2=false)):=Xj (by
  rw[HNX.o,hW,decide_eq_true (Au hW)]
  exact .inl ⟨rfl,rfl,by have:=HK.o;omega,rfl⟩)
 clear hW
 have HB5':=Xj (heap_setCell_same _ g5 0 _ _ (.int .i64 3) HB5.o)
 have HB2':=Xj ((heap_setCell_other wC ⟨g5,0,none⟩ g2 (.int .i64 3) (λ e=>HG.o.2.2 e)).trans HB2.o)
 have HBC':=Xj (HBC.o.setCell (p:=⟨g5,0,none⟩) HG.o.2.1 (.int .i64 3))
 go_upto_region 9 with fail
 obtain⟨wD,hwD⟩:∃ wD,wC.setCell ⟨g5,0,none⟩ (.int .i64 3)=wD:=⟨_,rfl⟩
 rw[hwD] at HB5' HB2' HBC' ⊢
 clear hwD k0 k1 k2 k3 j0 jl HB2 HB5 HBC
 have HB2:=HB2'
 have HB5:=HB5'
 have HBD:=HBC'
 clear HB2' HB5' HBC'
 have k0:=cell_of_row _ _ 0 _ _ _ HB5.o
 have k1:=cell_of_row _ _ 1 _ _ _ HB5.o
 have k2:=cell_of_row _ _ 2 _ _ _ HB5.o
 have k3:=cell_of_row _ _ 3 _ _ _ HB5.o
 have jl:=Xp HB5.o
 refine wp_region_held_drew (S:=(λ w'=>w'.cell? ⟨g5,0,none⟩=some (.int .i64 3)/\w'.cell? ⟨g5,1,none⟩=some (.int .i64 ln)/\w'.cell? ⟨g5,2,none⟩=some (.int .i64 0)/\w'.cell? ⟨g5,3,none⟩=some (.string (st t)))) (by kernel_rfl) ⟨k0,k1,k2,k3⟩ (λ hJ=>?_)
 refine tkH 0 56 ?_
 refine tkH 1 57 ?_
 refine tkH 2 58 ?_
 refine tkH 3 59 ?_
 refine tkH 4 60 ?_
 refine tkH 5 61 ?_
 refine tkU 6 62 ?_
 refine tkU 7 63 ?_
 refine tkU 8 64 ?_
 have hby:Below wD.heap.size wD wD.drew:=(Below.refl _ _).drew
 obtain⟨wy,hwy⟩:∃ wy,wD.drew=wy:=⟨_,rfl⟩
 rw[hwy] at hby hJ ⊢
 clear hwy
 refine tkH 9 65 ?_
 refine rdH 10 λ K hK=>?_
 have h2n:=(hby.block g2 (Xp HB2.o)).trans HB2.o
 have HBY:=Xj (HBD.o.trans (hby.mono HBD.o.size))
 clear hby
 have c0:=cell_of_row _ _ 0 _ _ _ h2n
 have c1:=cell_of_row _ _ 1 _ _ _ h2n
 have c2:=cell_of_row _ _ 2 _ _ _ h2n
 have c3:=cell_of_row _ _ 3 _ _ _ h2n
 have f0:=frozen_of_row _ g2 0 _ _ h2n
 have f1:=frozen_of_row _ g2 1 _ _ h2n
 have f2:=frozen_of_row _ g2 2 _ _ h2n
 have f3:=frozen_of_row _ g2 3 _ _ h2n
 have jl2:=Xp h2n
 go_simp
 refine goH hK ⟨Xf HG.o.2.2 hJ.1,Xf HG.o.2.2 hJ.2.1,Xf HG.o.2.2 hJ.2.2.1,Xf HG.o.2.2 hJ.2.2.2⟩ λ hJ=>?_
 clear hK K
 refine tkH 11 7 ?_
 refine tkH 12 8 ?_
 refine wpAnyH_done (by kernel_rfl) ?_ _
 refine Xz ?_
 have hY:=Ym (v0:=.int .i64 3) (v1:=.int .i64 ln) (v2:=.int .i64 0) (v3:=.string (st t)) h2n
 have Hi:=Yp (v0:=.int .i64 3) (v1:=.int .i64 ln) (v2:=.int .i64 0) (v3:=.string (st t)) HBY.o HG.o.1
 have q0:=cell_of_row _ _ 0 _ _ _ hY
 have q1:=cell_of_row _ _ 1 _ _ _ hY
 have q2:=cell_of_row _ _ 2 _ _ _ hY
 have q3:=cell_of_row _ _ 3 _ _ _ hY
 have Ho:=Xj Hi
 obtain⟨wn,hwn⟩:∃ wn,set4 wy g2 (.int .i64 3) (.int .i64 ln) (.int .i64 0) (.string (st t))=wn:=⟨_,rfl⟩
 have He:=hwn
 unfold set4 at He
 rw[He]
 rw[hwn] at Ho q0 q1 q2 q3
 clear hwn He hY Hi h2n c0 c1 c2 c3 f0 f1 f2 f3 jl2 k0 k1 k2 k3 jl hJ
 go_wp2_with fail
 refine bodyPost_ret (v:=.tuple #[tkv 3 ln 0 t,.int .i64 K,.bool true]) (by simp[results,Tryz.results82,go_sem,q0,q1,q2,q3]) rfl ?_
 exact⟨Ho.o,3,ln,0,t,K,true,rfl,by rcases HAN.o with h|h;exact .inl ⟨by first|exact h.1|rfl,rfl,h.2.2⟩;exact .inr h⟩
theorem Gl (s:ByteArray) (i:Nat) (ln:Int) (hs:s.size<=281474976710656) (hi:i<s.size) (b:UInt8) (hb:s[i]=b) (h1:lt8 b=false) (h2:dg8 b=true) (w:World):Calls Tryz.prog 82 #[.string s,.int .i64 i,.int .i64 ln] w (Em (s.data.toList.drop i) i ln w):=by
 have H1:=Xj h1
 have H2:=Xj h2
 clear h1 h2
 have HZ:=Xj (Ky w ln)
 obtain⟨t,ht⟩:∃ t,t=run dg8 (s.data.toList.drop i):=⟨_,rfl⟩
 obtain⟨K,hK⟩:∃ K,K=i+t.length:=⟨_,rfl⟩
 have HX:Xq (s.extract i K=st t):=Xj (by
  rw[Jw,List.drop_take,hK,Nat.add_sub_cancel_left,ht]
  congr 1
  unfold run
  exact(List.prefix_iff_eq_take.1 (List.takeWhile_prefix _)).symm)
 have HTL:Xq (t.length<=s.size-i):=Xj (by rw[ht];refine Nat.le_trans (Jy _ _) ?_;rw[List.length_drop,st_len];exact Nat.le_refl _)
 have hxx:Xq (Kr t):=Xj (by rw[ht];exact Et _)
 have hgi:=Zg s i hi
 rw[hb] at hgi
 have HNX:=Xj (Cp (l:=s.data.toList.drop i) (b:=b) (rest:=s.data.toList.drop (i+1)) (by
  obtain⟨hlt,he⟩:=List.getElem?_eq_some_iff.1 hgi
  rw[List.drop_eq_getElem_cons hlt,he]) H1.o H2.o t ht)
 have HTM:Xq (t.length<=281474976710656):=Xj (by have:=HTL.o;omega)
 have HNU:=Xj (λ W=>Hf t hxx.o HTM.o W)
 clear hgi
 have HT:=Xj ht
 have HK:=Xj hK
 clear hK ht
 go_enter Tryz.func82,Tryz.ntmps82
 go_wp2_with fail
 refine(Zk b _).mono ?_
 rintro e w1 ⟨rfl,rfl⟩
 rw[H1.o]
 go_wp2_with fail
 try rw[hb]
 refine(Qf b _).mono ?_
 rintro e w1 ⟨rfl,rfl⟩
 rw[H2.o]
 obtain⟨wa,hwa⟩:∃ wa,wa=((w.alloc (.cells #[.int .i64 0,.int .i64 0,.int .i64 0,.string { data := #[] }] 103)).alloc (.cells #[.int .i64 0,.int .i64 ln,.int .i64 0,.string { data := #[] }] 103)):=⟨_,rfl⟩
 rw[<- hwa]
 obtain⟨hba,hb2,hb5⟩:=HZ.o wa hwa
 obtain⟨g5,hg5⟩:∃ g5,w.heap.size+1=g5:=⟨_,rfl⟩
 obtain⟨g2,hg2⟩:∃ g2,w.heap.size=g2:=⟨_,rfl⟩
 rw[hg5] at hb5 ⊢
 rw[hg2] at hb2
 try rw[hg2]
 have HBA:=Xj hba
 have HG:Xq (w.heap.size<=g2/\w.heap.size<=g5/\g2≠g5):=Xj (by omega)
 have HB2:=Xj hb2
 have HB5:=Xj hb5
 clear hwa hba hg5 hg2 hb2 hb5
 go_upto_block 3 with fail
 go_cut [9] from 71 to 82 (λ v9 wx=>v9=.int .i64 K/\wx=wa)
 case first =>
  go_wp2_with fail
  go_loopw [9] (λ v9 wr=>∃ k:Nat,i<=k/\k<=s.size/\v9=.int .i64 k/\wr=wa/\Xq (∀ j,i<=j->j<k->∃ b,s.data.toList[j]?=some b/\dg8 b=true)) (λ v _=>s.size-(intOf v).toNat)
  case atStart=>exact⟨i,by omega,by omega,rfl,rfl,Xj (λ j h1 h2=>absurd h2 (by omega))⟩
  obtain⟨k,hk0,hk,rfl,rfl,HA⟩:=hrel
  by_cases hlt:k<s.size
  ·have HGK:=Xj (Zg s k hlt)
   obtain⟨c,hc⟩:∃ c,s[k]=c:=⟨_,rfl⟩
   rw[hc] at HGK
   go_wp2_with fail
   try rw[hc]
   refine(Qf c _).mono ?_
   rintro e w1 ⟨rfl,rfl⟩
   cases h2:dg8 c
   ·have HIN:Xq (dg8 c=false):=Xj h2
    have HKK:Xq (K=k):=Xj (by rw[HK.o,HT.o];exact Zd hk0 (by rw[st_len];exact hk) HA.o (λ b hb=>by rw[HGK.o] at hb;injection hb with hb;subst hb;exact HIN.o))
    go_wp2_with fail
    go_meet
    exact⟨by rw[HKK.o],rfl⟩
   have HIN:Xq (dg8 c=true):=Xj h2
   go_wp2_with fail
   go_roundw
   case rel=>exact⟨k+1,by omega,by omega,by go_num,by first|rfl|trivial,Xj (Ud HA.o HGK.o HIN.o)⟩
   simp[intOf];omega
  obtain rfl:k=s.size:=by omega
  have HKK:Xq (K=s.size):=Xj (by rw[HK.o,HT.o];exact Zd hk0 (by rw[st_len];exact hk) HA.o (λ b hb=>by
   have:=(List.getElem?_eq_some_iff.1 hb).1
   rw[st_len] at this;omega))
  go_wp2_with fail
  go_meet
  exact⟨by rw[HKK.o],rfl⟩
 obtain⟨rfl,rfl⟩:=hcut
 have hxk:=HX.o
 have hK1:i<=K:=by have:=HK.o;omega
 have hK2:K<=s.size:=by have h1:=HK.o;have h2:=HTL.o;omega
 have h5n:=HB5.o
 have k0:=cell_of_row _ _ 0 _ _ _ h5n
 have k1:=cell_of_row _ _ 1 _ _ _ h5n
 have k2:=cell_of_row _ _ 2 _ _ _ h5n
 have k3:=cell_of_row _ _ 3 _ _ _ h5n
 have j0:=frozen_of_row _ g5 0 _ _ h5n
 have j2:=frozen_of_row _ g5 2 _ _ h5n
 have j3:=frozen_of_row _ g5 3 _ _ h5n
 have jl:=Xp h5n
 go_wp2_with fail
 refine(HNU.o _).mono ?_
 rintro e w1 ⟨rfl,rfl⟩
 go_upto_region 16 with fail
 have h5a:=heap_setCell_same _ g5 2 _ _ (.int .i64 (rnV t)) (heap_setCell_same _ g5 0 _ _ (.int .i64 2) (heap_setCell_same _ g5 3 _ _ (.string (st t)) h5n))
 have h2a:=(heap_setCell_other ((wc.setCell ⟨g5,3,none⟩ (.string (st t))).setCell ⟨g5,0,none⟩ (.int .i64 2)) ⟨g5,2,none⟩ g2 (.int .i64 (rnV t)) (λ e=>HG.o.2.2 e)).trans ((heap_setCell_other (wc.setCell ⟨g5,3,none⟩ (.string (st t))) ⟨g5,0,none⟩ g2 (.int .i64 2) (λ e=>HG.o.2.2 e)).trans ((heap_setCell_other wc ⟨g5,3,none⟩ g2 (.string (st t)) (λ e=>HG.o.2.2 e)).trans HB2.o))
 have hbB:=((HBA.o.setCell (p:=⟨g5,3,none⟩) HG.o.2.1 (.string (st t))).setCell (p:=⟨g5,0,none⟩) HG.o.2.1 (.int .i64 2)).setCell (p:=⟨g5,2,none⟩) HG.o.2.1 (.int .i64 (rnV t))
 obtain⟨wB,hwB⟩:∃ wB,((wc.setCell ⟨g5,3,none⟩ (.string (st t))).setCell ⟨g5,0,none⟩ (.int .i64 2)).setCell ⟨g5,2,none⟩ (.int .i64 (rnV t))=wB:=⟨_,rfl⟩
 rw[hwB] at h5a h2a hbB ⊢
 clear hwB k0 k1 k2 k3 j0 j2 j3 jl h5n
 have HB5':=Xj h5a
 have HB2':=Xj h2a
 have HBB:=Xj hbB
 clear h5a h2a hbB
 obtain⟨bad,hjd⟩:∃ bad,bad=(decide (t.length<(run in8 (s.data.toList.drop i)).length)||(decide (b.toNat=48)&&decide (1<t.length))):=⟨_,rfl⟩
 have hjg:=Xj hjd
 clear hjd
 go_cut [124] from 97 to 124 (λ v wx=>v=.bool bad/\wx=wB)
 case first =>
  have H0:Xq ((run dg8 (s.data.toList.drop i)).length<(run in8 (s.data.toList.drop i)).length->True):=Xj (λ _=>trivial)
  by_cases hlt:K<s.size
  ·have hgk:=Zg s K hlt
   obtain⟨c,hc⟩:∃ c,s[K]=c:=⟨_,rfl⟩
   rw[hc] at hgk
   have hgd:(s.data.toList.drop i)[t.length]?=some c:=by rw[List.getElem?_drop,<- HK.o];exact hgk
   have hrn:=Es (p:=dg8) (q:=in8) (λ b hb=>by unfold in8;simp[hb]) (s.data.toList.drop i) c (by rw[<- HT.o];exact hgd)
   rw[<- HT.o] at hrn
   have hcd:dg8 c=false:=by
    cases hx:dg8 c
    ·rfl
    exfalso
    have hq:=Es (p:=dg8) (q:=dg8) (λ b hb=>hb) (s.data.toList.drop i) c (by rw[<- HT.o];exact hgd)
    rw[hx] at hq;simp at hq
   have hqj:bad=(in8 c||(decide (b.toNat=48)&&decide (1<t.length))):=by rw[hjg.o,hrn]
   clear hrn hgd
   have HB3:=Xj hqj
   clear hqj hgk
   have H3:=Xj hcd
   clear hcd
   go_wp2_with fail
   try rw[hc]
   refine(Zk c _).mono ?_
   rintro e w1 ⟨rfl,rfl⟩
   cases hl8:lt8 c
   ·by_cases h95:c.toNat=95
    ·have hd:((c.toNat:Int)==95)=true:=by rw[h95];rfl
     have HIN:Xq (bad=true):=Xj (by rw[HB3.o];unfold in8;simp[h95])
     go_wp2_with fail
     go_meet
     exact⟨by rw[HIN.o],rfl⟩
    have hd:((c.toNat:Int)==95)=false:=by rw[beq_eq_false_iff_ne];omega
    by_cases h48:b.toNat=48
    ·have hd2:((b.toNat:Int)==48)=true:=by rw[h48];rfl
     have HIN:Xq (bad=decide (i+1<K)):=Xj (by
      rw[HB3.o];unfold in8;simp[h95,h48,hl8,H3.o]
      have:=HK.o;omega)
     clear h48
     go_wp2_with fail
     go_meet
     exact⟨by rw[HIN.o];try congr 1;try (apply Bool.eq_iff_iff.2;simp;omega),rfl⟩
    have hd2:((b.toNat:Int)==48)=false:=by rw[beq_eq_false_iff_ne];omega
    have HIN:Xq (bad=false):=Xj (by rw[HB3.o];unfold in8;simp[h95,h48,hl8,H3.o])
    go_wp2_with fail
    go_meet
    exact⟨by rw[HIN.o],rfl⟩
   have HIN:Xq (bad=true):=Xj (by rw[HB3.o];unfold in8;simp[hl8])
   go_wp2_with fail
   go_meet
   exact⟨by rw[HIN.o],rfl⟩
  obtain hKs:K=s.size:=by omega
  have hqj:bad=(decide (b.toNat=48)&&decide (1<t.length)):=by
   rw[hjg.o]
   have h1:(run in8 (s.data.toList.drop i)).length<=s.size-i:=Nat.le_trans (Jy _ _) (by rw[List.length_drop,st_len];exact Nat.le_refl _)
   have h2:=HK.o
   rw[decide_eq_false (by omega)];simp
  have HB3:=Xj hqj
  clear hqj
  by_cases h48:b.toNat=48
  ·have hd2:((b.toNat:Int)==48)=true:=by rw[h48];rfl
   have HIN:Xq (bad=decide (i+1<K)):=Xj (by
    rw[HB3.o];simp[h48]
    have:=HK.o;omega)
   clear h48
   go_wp2_with fail
   go_meet
   exact⟨by rw[HIN.o];try congr 1;try (apply Bool.eq_iff_iff.2;simp;omega),rfl⟩
  have hd2:((b.toNat:Int)==48)=false:=by rw[beq_eq_false_iff_ne];omega
  have HIN:Xq (bad=false):=Xj (by rw[HB3.o];simp[h48])
  go_wp2_with fail
  go_meet
  exact⟨by rw[HIN.o],rfl⟩
 obtain⟨rfl,rfl⟩:=hcut
 have k0:=cell_of_row _ _ 0 _ _ _ HB5'.o
 have k1:=cell_of_row _ _ 1 _ _ _ HB5'.o
 have k2:=cell_of_row _ _ 2 _ _ _ HB5'.o
 have k3:=cell_of_row _ _ 3 _ _ _ HB5'.o
 have c0:=cell_of_row _ _ 0 _ _ _ HB2'.o
 have c1:=cell_of_row _ _ 1 _ _ _ HB2'.o
 have c2:=cell_of_row _ _ 2 _ _ _ HB2'.o
 have c3:=cell_of_row _ _ 3 _ _ _ HB2'.o
 have f0:=frozen_of_row _ g2 0 _ _ HB2'.o
 have f1:=frozen_of_row _ g2 1 _ _ HB2'.o
 have f2:=frozen_of_row _ g2 2 _ _ HB2'.o
 have f3:=frozen_of_row _ g2 3 _ _ HB2'.o
 have jl2:=Xp HB2'.o
 have hY:=Ym (v0:=.int .i64 2) (v1:=.int .i64 ln) (v2:=.int .i64 (rnV t)) (v3:=.string (st t)) HB2'.o
 have Hi:=Yp (v0:=.int .i64 2) (v1:=.int .i64 ln) (v2:=.int .i64 (rnV t)) (v3:=.string (st t)) HBB.o HG.o.1
 have q0:=cell_of_row _ _ 0 _ _ _ hY
 have q1:=cell_of_row _ _ 1 _ _ _ hY
 have q2:=cell_of_row _ _ 2 _ _ _ hY
 have q3:=cell_of_row _ _ 3 _ _ _ hY
 have Ho:=Xj Hi
 clear hY Hi
 have HAN:Xq (((rnO t && !bad)=true/\ln=ln/\(K:Int)=(i:Int)+t.length/\nxI (s.data.toList.drop i)=(2,rnV t,t,true))\/((rnO t && !bad)=false/\(nxI (s.data.toList.drop i)).2.2.2=false)):=Xj (by
  rcases HNX.o bad hjg.o with h|h
  ·exact .inl ⟨h.1,rfl,by have:=HK.o;omega,h.2⟩
  exact .inr h)
 cases bad
 ·go_wp2_with fail
  refine bodyPost_ret (v:=.tuple #[tkv 2 ln (rnV t) t,.int .i64 K,.bool (rnO t)]) (by simp[results,Tryz.results82,go_sem,q0,q1,q2,q3]) rfl ?_
  exact⟨Ho.o,2,ln,rnV t,t,K,rnO t,rfl,by rcases HAN.o with h|h;exact .inl ⟨by simpa using h.1,rfl,h.2.2⟩;exact .inr ⟨by simpa using h.1,h.2⟩⟩
 go_wp2_with fail
 refine bodyPost_ret (v:=.tuple #[tkv 2 ln (rnV t) t,.int .i64 K,.bool false]) (by simp[results,Tryz.results82,go_sem,q0,q1,q2,q3]) rfl ?_
 exact⟨Ho.o,2,ln,rnV t,t,K,false,rfl,by rcases HAN.o with h|h;exact absurd h.1 (by simp);exact .inr ⟨rfl,h.2⟩⟩
theorem Ak {l:Bt} {b:UInt8} {rest:Bt} (hl:l=b::rest) (h1:lt8 b=false) (h2:dg8 b=false):nxI l=(if 1<l.length/\isS (l.take 2)=true then (4,0,l.take 2,true) else (4,0,l.take 1,isS (l.take 1))):=by
 subst hl
 show (if lt8 b then _ else _)=_
 rw[h1];simp only[Bool.false_eq_true,if_false]
 rw[h2];simp only[Bool.false_eq_true,if_false]
theorem Rt (s:ByteArray) (i n:Nat):s.extract i (i+n)=st ((s.data.toList.drop i).take n):=by
 rw[Jw,List.drop_take,Nat.add_sub_cancel_left]
theorem Dx (s:ByteArray) (i:Nat) (ln:Int) (hs:s.size<=281474976710656) (hi:i<s.size) (b:UInt8) (hb:s[i]=b) (h1:lt8 b=false) (h2:dg8 b=false) (w:World):Calls Tryz.prog 82 #[.string s,.int .i64 i,.int .i64 ln] w (Em (s.data.toList.drop i) i ln w):=by
 have H1:=Xj h1
 have H2:=Xj h2
 clear h1 h2
 have HZ:=Xj (Ky w ln)
 have hgi:=Zg s i hi
 rw[hb] at hgi
 have HNX:=Xj (Ak (l:=s.data.toList.drop i) (b:=b) (rest:=s.data.toList.drop (i+1)) (by
  obtain⟨hlt,he⟩:=List.getElem?_eq_some_iff.1 hgi
  rw[List.drop_eq_getElem_cons hlt,he]) H1.o H2.o)
 have HLN:Xq ((s.data.toList.drop i).length=s.size-i):=Xj (by rw[List.length_drop,st_len])
 clear hgi
 have HEX:=Xj (λ n=>Rt s i n)
 go_enter Tryz.func82,Tryz.ntmps82
 go_wp2_with fail
 refine(Zk b _).mono ?_
 rintro e w1 ⟨rfl,rfl⟩
 rw[H1.o]
 go_wp2_with fail
 try rw[hb]
 refine(Qf b _).mono ?_
 rintro e w1 ⟨rfl,rfl⟩
 rw[H2.o]
 obtain⟨wa,hwa⟩:∃ wa,wa=((w.alloc (.cells #[.int .i64 0,.int .i64 0,.int .i64 0,.string { data := #[] }] 103)).alloc (.cells #[.int .i64 0,.int .i64 ln,.int .i64 0,.string { data := #[] }] 103)):=⟨_,rfl⟩
 rw[<- hwa]
 obtain⟨hba,hb2,hb5⟩:=HZ.o wa hwa
 obtain⟨g5,hg5⟩:∃ g5,w.heap.size+1=g5:=⟨_,rfl⟩
 obtain⟨g2,hg2⟩:∃ g2,w.heap.size=g2:=⟨_,rfl⟩
 rw[hg5] at hb5 ⊢
 rw[hg2] at hb2
 try rw[hg2]
 have HBA:=Xj hba
 have HG:Xq (w.heap.size<=g2/\w.heap.size<=g5/\g2≠g5):=Xj (by omega)
 have HB2:=Xj hb2
 have HB5:=Xj hb5
 clear hwa hba hg5 hg2 hb2 hb5
 go_upto_block 5 with fail
 go_wp2_with fail
 go_loopw [13] (λ v13 wr=>∃ n:Nat,n<=2/\v13=.int .i64 n/\Xq (Below w.heap.size w wr)/\Xq (wr.heap[g2]?=some (.cells #[.int .i64 0,.int .i64 0,.int .i64 0,.string { data := #[] }] 103 (0,0)))/\Xq (wr.heap[g5]?=some (.cells #[.int .i64 0,.int .i64 ln,.int .i64 0,.string { data := #[] }] 103 (0,0)))/\Xq (∀ j,n<j->j<=2->¬ (i+j<=s.size/\isS ((s.data.toList.drop i).take j)=true))) (λ v _=>(intOf v).toNat)
 case atStart=>exact⟨2,by omega,rfl,HBA,HB2,HB5,Xj (λ j h1 h2=>absurd h1 (by omega))⟩
 clear HBA HB2 HB5
 obtain⟨n,hn2,rfl,HBA,HB2,HB5,HNO⟩:=hrel
 by_cases hn0:n=0
 ·subst hn0
  have c0:=cell_of_row _ _ 0 _ _ _ HB2.o
  have c1:=cell_of_row _ _ 1 _ _ _ HB2.o
  have c2:=cell_of_row _ _ 2 _ _ _ HB2.o
  have c3:=cell_of_row _ _ 3 _ _ _ HB2.o
  have f0:=frozen_of_row _ g2 0 _ _ HB2.o
  have f1:=frozen_of_row _ g2 1 _ _ HB2.o
  have f2:=frozen_of_row _ g2 2 _ _ HB2.o
  have f3:=frozen_of_row _ g2 3 _ _ HB2.o
  have jl2:=Xp HB2.o
  have hY:=Ym (v0:=.int .i64 0) (v1:=.int .i64 0) (v2:=.int .i64 0) (v3:=.string { data := #[] }) HB2.o
  have Hi:=Yp (v0:=.int .i64 0) (v1:=.int .i64 0) (v2:=.int .i64 0) (v3:=.string { data := #[] }) HBA.o HG.o.1
  have q0:=cell_of_row _ _ 0 _ _ _ hY
  have q1:=cell_of_row _ _ 1 _ _ _ hY
  have q2:=cell_of_row _ _ 2 _ _ _ hY
  have q3:=cell_of_row _ _ 3 _ _ _ hY
  have Ho:=Xj Hi
  clear hY Hi
  go_wp2_with fail
  refine bodyPost_ret (v:=.tuple #[tkv 0 0 0 [],.int .i64 0,.bool false]) (by simp[results,Tryz.results82,go_sem,q0,q1,q2,q3]) rfl ?_
  exact⟨Ho.o,0,0,0,[],0,false,rfl,.inr ⟨rfl,by
   rw[HNX.o]
   have h2:=HNO.o 2 (by omega) (by omega)
   have h1:=HNO.o 1 (by omega) (by omega)
   rw[if_neg (λ h=>h2 ⟨by have:=HLN.o;omega,h.2⟩)]
   cases hx:isS ((s.data.toList.drop i).take 1)
   ·rfl
   exact absurd ⟨by omega,hx⟩ h1⟩⟩
 by_cases hfit:i+n<=s.size
 ·have hx:=HEX.o n
  obtain⟨t,ht⟩:∃ t,(s.data.toList.drop i).take n=t:=⟨_,rfl⟩
  rw[ht] at hx
  have HT:=Xj ht
  clear ht
  go_wp2_with fail
  refine(Mz t _).mono ?_
  rintro e wC ⟨rfl,hbC⟩
  have h5c:=(hbC.block g5 (Xp HB5.o)).trans HB5.o
  have h2c:=(hbC.block g2 (Xp HB2.o)).trans HB2.o
  have HBC:=Xj (HBA.o.trans (hbC.mono HBA.o.size))
  clear hbC HBA HB2 HB5
  have HB5:=Xj h5c
  have HB2:=Xj h2c
  clear h5c h2c
  cases hS:isS t
  ·have HS:Xq (isS t=false):=Xj hS
   clear hS
   go_wp2_with fail
   go_roundw
   case rel=>exact⟨n-1,by omega,by go_num,HBC,HB2,HB5,Xj (λ j h1 h2=>by
    by_cases e:j=n
    ·subst e;rw[HT.o,HS.o];simp
    exact HNO.o j (by omega) h2)⟩
   simp[intOf];omega
  have HAN:Xq (nxI (s.data.toList.drop i)=(4,0,t,true)):=Xj (by
   rw[HNX.o]
   by_cases e:n=2
   ·subst e
    rw[if_pos ⟨by have:=HLN.o;omega,by rw[HT.o];exact hS⟩,HT.o]
   have e1:n=1:=by omega
   subst e1
   have h2:=HNO.o 2 (by omega) (by omega)
   rw[if_neg (λ h=>h2 ⟨by have:=HLN.o;omega,h.2⟩),HT.o,hS])
  have HTL:Xq (t.length=n):=Xj (by rw[<- HT.o,List.length_take,HLN.o];omega)
  have k0:=cell_of_row _ _ 0 _ _ _ HB5.o
  have k1:=cell_of_row _ _ 1 _ _ _ HB5.o
  have k2:=cell_of_row _ _ 2 _ _ _ HB5.o
  have k3:=cell_of_row _ _ 3 _ _ _ HB5.o
  have j0:=frozen_of_row _ g5 0 _ _ HB5.o
  have j3:=frozen_of_row _ g5 3 _ _ HB5.o
  have jl:=Xp HB5.o
  clear hS
  go_upto_region 24 with fail
  have h5a:=heap_setCell_same _ g5 0 _ _ (.int .i64 4) (heap_setCell_same _ g5 3 _ _ (.string (st t)) HB5.o)
  have h2a:=(heap_setCell_other (wC.setCell ⟨g5,3,none⟩ (.string (st t))) ⟨g5,0,none⟩ g2 (.int .i64 4) (λ e=>HG.o.2.2 e)).trans ((heap_setCell_other wC ⟨g5,3,none⟩ g2 (.string (st t)) (λ e=>HG.o.2.2 e)).trans HB2.o)
  have hbB:=(HBC.o.setCell (p:=⟨g5,3,none⟩) HG.o.2.1 (.string (st t))).setCell (p:=⟨g5,0,none⟩) HG.o.2.1 (.int .i64 4)
  obtain⟨wB,hwB⟩:∃ wB,(wC.setCell ⟨g5,3,none⟩ (.string (st t))).setCell ⟨g5,0,none⟩ (.int .i64 4)=wB:=⟨_,rfl⟩
  rw[hwB] at h5a h2a hbB ⊢
  clear hwB k0 k1 k2 k3 j0 j3 jl
  have k0:=cell_of_row _ _ 0 _ _ _ h5a
  have k1:=cell_of_row _ _ 1 _ _ _ h5a
  have k2:=cell_of_row _ _ 2 _ _ _ h5a
  have k3:=cell_of_row _ _ 3 _ _ _ h5a
  have c0:=cell_of_row _ _ 0 _ _ _ h2a
  have c1:=cell_of_row _ _ 1 _ _ _ h2a
  have c2:=cell_of_row _ _ 2 _ _ _ h2a
  have c3:=cell_of_row _ _ 3 _ _ _ h2a
  have f0:=frozen_of_row _ g2 0 _ _ h2a
  have f1:=frozen_of_row _ g2 1 _ _ h2a
  have f2:=frozen_of_row _ g2 2 _ _ h2a
  have f3:=frozen_of_row _ g2 3 _ _ h2a
  have jl2:=Xp h2a
  have hY:=Ym (v0:=.int .i64 4) (v1:=.int .i64 ln) (v2:=.int .i64 0) (v3:=.string (st t)) h2a
  have Hi:=Yp (v0:=.int .i64 4) (v1:=.int .i64 ln) (v2:=.int .i64 0) (v3:=.string (st t)) hbB HG.o.1
  have q0:=cell_of_row _ _ 0 _ _ _ hY
  have q1:=cell_of_row _ _ 1 _ _ _ hY
  have q2:=cell_of_row _ _ 2 _ _ _ hY
  have q3:=cell_of_row _ _ 3 _ _ _ hY
  have Ho:=Xj Hi
  clear hY Hi h5a h2a hbB HB5 HB2
  go_wp2_with fail
  refine bodyPost_ret (v:=.tuple #[tkv 4 ln 0 t,.int .i64 ((i:Int)+n),.bool true]) (by simp[results,Tryz.results82,go_sem,q0,q1,q2,q3]) rfl ?_
  exact⟨Ho.o,4,ln,0,t,(i:Int)+n,true,rfl,.inl ⟨rfl,rfl,by rw[HTL.o],HAN.o⟩⟩
 go_wp2_with fail
 go_roundw
 case rel=>exact⟨n-1,by omega,by go_num,HBA,HB2,HB5,Xj (λ j h1 h2=>by
  by_cases e:j=n
  ·subst e;exact λ h=>hfit h.1
  exact HNO.o j (by omega) h2)⟩
 simp[intOf];omega
theorem Mq (s:ByteArray) (i:Nat) (ln:Int) (hs:s.size<=281474976710656) (hi:i<s.size) (w:World):Calls Tryz.prog 82 #[.string s,.int .i64 i,.int .i64 ln] w (Em (s.data.toList.drop i) i ln w):=by
 obtain⟨b,hb⟩:∃ b,s[i]=b:=⟨_,rfl⟩
 cases h1:lt8 b
 ·cases h2:dg8 b
  ·exact Dx s i ln hs hi b hb h1 h2 w
  exact Gl s i ln hs hi b hb h1 h2 w
 exact Eg s i ln hs hi b hb h1 w
theorem Bj {s:ByteArray} {i:Nat} (h:i<=s.size):(s.extract i s.size).size=s.size-i:=by
 rw[<- st_len,Qp,List.length_drop,st_len]
theorem Mx (s:ByteArray) (hs:s.size<=281474976710656) (w:World):Calls Tryz.prog 48 #[.string s] w (Vq s.data.toList w):=by
 by_cases hjf:65536<s.size
 ·have d0:decide ((65536:Int)<(s.size:Int))=true:=by rw[decide_eq_true_iff];omega
  have HBG:=Xj hjf
  clear hjf
  go_enter Tryz.func48,Tryz.ntmps48
  go_wp2_with fail
  refine bodyPost_ret (v:=.tuple #[.slice none 0 0,.int .i64 0,.int .i64 5]) (by simp[results,Tryz.results48,go_sem]) rfl ?_
  exact⟨Below.refl _ _,.inl ⟨HBG.o,rfl⟩⟩
 have d0:decide ((65536:Int)<(s.size:Int))=false:=by rw[decide_eq_false_iff_not];omega
 have hs2:s.size<=65536:=by omega
 have H9:Xq (∀ (e:Ending) (w':World),Below w.heap.size w w'->(((scan s.data.toList).1=none/\e=.returned (.tuple #[.slice none 0 0,.int .i64 (scan s.data.toList).2,.int .i64 6]))\/(∃ (ts:List Tk) (v:Value),(scan s.data.toList).1=some ts/\e=.returned (.tuple #[v,.int .i64 0,.int .i64 0])/\w'.ownsRow w.heap.size 103 4 v ts.length (Jl ts)))->Vq s.data.toList w e w'):=Xj (λ e w' hb h=>⟨hb,by
  rcases h with h|h
  ·exact .inr (.inl ⟨hs2,h⟩)
  exact .inr (.inr ⟨hs2,h⟩)⟩)
 clear hjf
 obtain⟨i0,hi0,hz0,hz1,hz2⟩:=info_parts Tryz.infoTok
 have HI:=Xj hi0
 have HZ0:=Xj hz0
 have HZ1:=Xj hz1
 have HZ2:=Xj hz2
 clear hi0 hz0 hz1 hz2
 go_enter Tryz.func48,Tryz.ntmps48
 go_upto_block 0 with fail
 go_wp2_with fail
 go_loopw [2,5,6] (λ v2 v5 v6 wr=>∃ (i:Nat) (ln:Int) (acc:List Tk),v6=.int .i64 i/\v5=.int .i64 ln/\i<=s.size/\1<=ln/\ln+s.size<=65537+i/\acc.length+s.size<=65536+i/\Xq (scan s.data.toList=scI (s.extract i s.size).size acc (s.extract i s.size).data.toList ln)/\Xq (Below w.heap.size w wr/\wr.ownsRow w.heap.size 103 4 v2 acc.length (Jl acc))) (λ _ _ v6 _=>s.size-(intOf v6).toNat)
 case atStart=>exact⟨0,1,[],rfl,rfl,by omega,by omega,by omega,by simp;omega,Xj (by rw[Qp,Bj (by omega)];rfl),Xj ⟨Below.refl _ _,World.ownsRow_nil _ _ _ _⟩⟩
 obtain⟨i,ln,acc,rfl,rfl,hi,hl1,hl2,hac,HS,HR⟩:=hrel
 by_cases hlt:i<s.size
 ·obtain⟨b,hb⟩:∃ b,s[i]=b:=⟨_,rfl⟩
  obtain⟨r,hx0⟩:∃ r,(s.extract i s.size).data.toList=b::r:=by
   have hgi:=Zg s i hlt
   rw[hb] at hgi
   obtain⟨hqf,he⟩:=List.getElem?_eq_some_iff.1 hgi
   exact⟨s.data.toList.drop (i+1),by rw[Qp,List.drop_eq_getElem_cons hqf,he]⟩
  have HX0:=Xj hx0
  have HXD:Xq (s.data.toList.drop i=b::r):=Xj (by rw[<- Qp];exact hx0)
  have HSK:Xq (∀ (v l2:Value) (j k:Nat) (d:Int),l2=.int .i64 (ln+d)->v=.int .i64 ((i+k:Nat):Int)->i+k<=s.size->Xl ln b r=.skip k d->0<=d->d<=1->(∃ (i_1:Nat) (ln_1:Int) (acc:List Tk),v=.int .i64 i_1/\l2=.int .i64 ln_1/\i_1<=s.size/\1<=ln_1/\ln_1+s.size<=65537+i_1/\acc.length+s.size<=65536+i_1/\Xq (scan s.data.toList=scI (s.extract i_1 s.size).size acc (s.extract i_1 s.size).data.toList ln_1)/\Xq (Below w.heap.size w wr/\wr.ownsRow w.heap.size 103 4 u2 acc.length (Jl acc)))):=Xj (λ v l2 j k d hl hj hjs hst hd0 hd1=>by
   subst hl hj
   have hk1:=Jn hst
   refine⟨i+k,ln+d,acc,rfl,rfl,by omega,by omega,by omega,by omega,Xj ?_,HR⟩
   rw[HS.o]
   exact Du HX0.o hst (by rw[Qp,<- List.drop_drop,HXD.o]))
  clear hx0
  by_cases h10:b.toNat=10
  ·have d10:((b.toNat:Int)==10)=true:=by rw[beq_iff_eq];omega
   have HST:Xq (Xl ln b r=.skip 1 1):=Xj (by unfold Xl;rw[if_pos h10])
   clear h10
   go_wp2_with fail
   go_roundw
   case rel=>exact HSK.o _ _ 0 1 1 rfl rfl (by omega) HST.o (by omega) (by omega)
   simp[intOf];omega
  have d10:((b.toNat:Int)==10)=false:=by rw[beq_eq_false_iff_ne];omega
  by_cases h32:b.toNat=32
  ·have d32:((b.toNat:Int)==32)=true:=by rw[beq_iff_eq];omega
   have HST:Xq (Xl ln b r=.skip 1 0):=Xj (by unfold Xl;rw[if_neg h10,if_pos (.inl h32)])
   clear h10 h32
   go_wp2_with fail
   go_roundw
   case rel=>exact HSK.o _ _ 0 1 0 (by simp) rfl (by omega) HST.o (by omega) (by omega)
   simp[intOf];omega
  have d32:((b.toNat:Int)==32)=false:=by rw[beq_eq_false_iff_ne];omega
  by_cases h9:b.toNat=9
  ·have d9:((b.toNat:Int)==9)=true:=by rw[beq_iff_eq];omega
   have HST:Xq (Xl ln b r=.skip 1 0):=Xj (by unfold Xl;rw[if_neg h10,if_pos (.inr h9)])
   clear h10 h32 h9
   go_wp2_with fail
   go_roundw
   case rel=>exact HSK.o _ _ 0 1 0 (by simp) rfl (by omega) HST.o (by omega) (by omega)
   simp[intOf];omega
  have d9:((b.toNat:Int)==9)=false:=by rw[beq_eq_false_iff_ne];omega
  by_cases h35:b.toNat=35
  ·have d35:((b.toNat:Int)==35)=true:=by rw[beq_iff_eq];omega
   have HST:Xq (Xl ln b r=.skip (run nl8 (s.data.toList.drop i)).length 0):=Xj (by unfold Xl;rw[if_neg h10,if_neg (by omega),if_pos h35,HXD.o])
   have HLP:Xq (1<=(run nl8 (s.data.toList.drop i)).length):=Xj (by rw[HXD.o];exact Hh b r h10)
   clear h10 h32 h9 h35
   go_upto_block 3 with fail
   go_wp2_with fail
   go_loopw [6] (λ v6 wq=>∃ k:Nat,i<=k/\k<=s.size/\v6=.int .i64 k/\wq=wr/\Xq (∀ j,i<=j->j<k->∃ b,s.data.toList[j]?=some b/\nl8 b=true)) (λ v6 _=>s.size-(intOf v6).toNat)
   case atStart=>exact⟨i,by omega,by omega,rfl,rfl,Xj (λ j h1 h2=>absurd h2 (by omega))⟩
   obtain⟨k,hk0,hk,rfl,rfl,HA⟩:=hrel
   by_cases hlk:k<s.size
   ·have HGK:=Xj (Zg s k hlk)
    obtain⟨c,hc⟩:∃ c,s[k]=c:=⟨_,rfl⟩
    rw[hc] at HGK
    by_cases hc10:c.toNat=10
    ·have dc:((c.toNat:Int) != 10)=false:=by rw[hc10];rfl
     have HNL:Xq (nl8 c=false):=Xj (by unfold nl8;simp[hc10])
     clear hc10
     have HKK:Xq (i+(run nl8 (s.data.toList.drop i)).length=k):=Xj (Zd hk0 (by rw[st_len];exact hk) HA.o (λ b hb=>by rw[HGK.o] at hb;injection hb with hb;subst hb;exact HNL.o))
     go_wp2_with fail
     go_roundw
     case rel=>exact HSK.o _ _ 0 _ 0 (by simp) (by rw[HKK.o]) (by rw[HKK.o];omega) HST.o (by omega) (by omega)
     simp[intOf];have h1:=HKK.o;have h2:=HLP.o;omega
    have dc:((c.toNat:Int) != 10)=true:=by rw[bne_iff_ne];omega
    have HNL:Xq (nl8 c=true):=Xj (by unfold nl8;simp[hc10])
    clear hc10
    go_wp2_with fail
    go_roundw
    case rel=>exact⟨k+1,by omega,by omega,by go_num,by first|rfl|trivial,Xj (Ud HA.o HGK.o HNL.o)⟩
    simp[intOf];omega
   obtain rfl:k=s.size:=by omega
   have HKK:Xq (i+(run nl8 (s.data.toList.drop i)).length=s.size):=Xj (Zd hk0 (by rw[st_len];exact hk) HA.o (λ b hb=>by
    have:=(List.getElem?_eq_some_iff.1 hb).1
    rw[st_len] at this;omega))
   go_wp2_with fail
   go_roundw
   case rel=>exact HSK.o _ _ 0 _ 0 (by simp) (by rw[HKK.o]) (by rw[HKK.o];omega) HST.o (by omega) (by omega)
   simp[intOf];have h1:=HKK.o;have h2:=HLP.o;omega
  have d35:((b.toNat:Int)==35)=false:=by rw[beq_eq_false_iff_ne];omega
  have HST:Xq (Xl ln b r=if (nxI (b::r)).2.2.2=true then .tok ⟨(nxI (b::r)).1,ln,(nxI (b::r)).2.1,(nxI (b::r)).2.2.1⟩ else .bad):=Xj (by unfold Xl;rw[if_neg h10,if_neg (by omega),if_neg h35])
  clear h10 h32 h9 h35
  go_wp2_with fail
  refine(Mq s i ln (by omega) hlt _).mono ?_
  rintro e w1 ⟨hb1,k,x,v,t,m,ok,rfl,hnx⟩
  rw[HXD.o] at hnx
  have hsz:=HR.o.1.size
  have HB1:=Xj (HR.o.1.trans (hb1.mono HR.o.1.size))
  have HO1:=Xj (Ux HR.o.2 hb1)
  clear hb1
  cases ok
  ·have hjg:Xq (scan s.data.toList=(none,ln)):=Xj (by
    rw[HS.o]
    refine Pu HX0.o ?_
    rw[HST.o,if_neg]
    rcases hnx with h|⟨_,h⟩
    ·exact absurd h.1 (by simp)
    rw[h];simp)
   clear hnx
   go_wp2_with fail
   refine bodyPost_ret (v:=.tuple #[.slice none 0 0,.int .i64 ln,.int .i64 6]) (by simp[results,Tryz.results48,go_sem]) rfl ?_
   exact H9.o _ _ (HB1.o.alloc HB1.o.size _) (.inl ⟨by rw[hjg.o],by rw[hjg.o]⟩)
  obtain⟨hxl,hm,hjh⟩:x=ln/\m=(i:Int)+t.length/\nxI (b::r)=(k,v,t,true):=by
   rcases hnx with h|⟨h,_⟩
   ·exact h.2
   cases h
  subst hxl
  have hzm:Xq (Xl x b r=.tok ⟨k,x,v,t⟩):=Xj (by rw[HST.o,hjh];simp)
  have ht1:1<=t.length:=by have:=Kb (b:=b) (r:=r) (by rw[hjh]);rw[hjh] at this;exact this
  have ht2:i+t.length<=s.size:=by have:=Rv (b::r);rw[hjh,<- HXD.o,List.length_drop,st_len] at this;simp only at this;omega
  subst hm
  clear hnx hjh
  have hzw:=HB1.o.size
  go_upto_region 9 with fail
  obtain⟨w2,hw2⟩:∃ w2,w2=(w1.alloc (.cells #[.int .i64 k,.int .i64 x,.int .i64 v,.string (st t)] 103)):=⟨_,rfl⟩
  rw[<- hw2]
  have hbb:Below w1.heap.size w1 w2:=by rw[hw2];exact(Below.refl _ _).alloc (Nat.le_refl _) _
  have hjm:w2.heap[w1.heap.size]?=some (.cells #[.int .i64 k,.int .i64 x,.int .i64 v,.string (st t)] 103 (0,0)):=by rw[hw2];exact heap_alloc_new w1 _
  have HB2:=Xj (HB1.o.trans (hbb.mono HB1.o.size))
  have HO2:=Xj (Ux HO1.o hbb)
  have HNG:Xq (∀ q,u2.ownBlock=some q->q≠w1.heap.size):=Xj (λ q hq=>by have:=(HO1.o.lt q hq).2;omega)
  have HBL:=Xj hjm
  have c0:=cell_of_row _ _ 0 _ _ _ hjm
  have c1:=cell_of_row _ _ 1 _ _ _ hjm
  have c2:=cell_of_row _ _ 2 _ _ _ hjm
  have c3:=cell_of_row _ _ 3 _ _ _ hjm
  have cl:=Xp hjm
  obtain⟨g5,hg5⟩:∃ g5,w1.heap.size=g5:=⟨_,rfl⟩
  rw[hg5] at HNG HBL c0 c1 c2 c3 cl ⊢
  clear hw2 hbb hjm hg5 hzw
  have HOA:=Xj (HO2.o.alloc (.cells #[.int .i64 k,.int .i64 x,.int .i64 v,.string (st t)] 103))
  have HBA:=Xj (HB2.o.alloc HB2.o.size (.cells #[.int .i64 k,.int .i64 x,.int .i64 v,.string (st t)] 103))
  have hzc:=HB2.o.size
  clear HB1 HO1
  clear w1
  go_wp2_with (at_builtin;refine wpList_append_own _ rfl _ _ _ rfl w.heap.size 103 i0 _ 4 40 Tryz.underlying86 HI.o HZ0.o HZ1.o HZ2.o rfl (by omega) _ _ _ rfl HOA.o ⟨w2.heap.size,0,none⟩ 1 1 [.int .i64 k,.int .i64 x,.int .i64 v,.string (st t)] rfl rfl (World.news_of_block (cs := #[.int .i64 k,.int .i64 x,.int .i64 v,.string (st t)]) (t:=103) (fr:=(0,0)) (heap_alloc_new w2 _)) (by simp[Value.oneCell']) (by unfold maxLen;omega) (by omega) (by simp;omega) ?_;intro v' w9 hown9 hgrow9 _;have HO9:=Xj hown9;have HG9:=Xj hgrow9;clear hown9 hgrow9)
  have HB9:=Xj (HBA.o.grown HG9.o HBA.o.size (λ k hk=>(HOA.o.lt k hk).1))
  go_roundw
  case rel =>
   refine⟨i+t.length,x,acc++[⟨k,x,v,t⟩],by simp,rfl,by omega,by omega,by omega,by simp;omega,Xj ?_,Xj ⟨HB9.o,?_⟩⟩
   ·rw[HS.o]
    exact Py HX0.o hzm.o ht1 (by rw[Qp,<- List.drop_drop,HXD.o])
   have:=HO9.o
   rw[<- Uq]
   simpa using this
  simp[intOf];omega
 obtain rfl:i=s.size:=by omega
 have HE:Xq (scan s.data.toList=(some (acc++[⟨0,ln,0,[]⟩]),0)):=Xj (by rw[HS.o,Qp,List.drop_eq_nil_of_le (by rw[st_len];exact Nat.le_refl _),Jk])
 have HOA:=Xj (HR.o.2.alloc (.cells #[.int .i64 0,.int .i64 ln,.int .i64 0,.string ⟨#[]⟩] 103))
 have hbA:=HR.o.1.alloc HR.o.1.size (.cells #[.int .i64 0,.int .i64 ln,.int .i64 0,.string ⟨#[]⟩] 103)
 have HBA:=Xj hbA
 have hsz:=HR.o.1.size
 clear hbA
 go_wp2_with (at_builtin;refine wpList_append_own _ rfl _ _ _ rfl w.heap.size 103 i0 _ 4 40 Tryz.underlying86 HI.o HZ0.o HZ1.o HZ2.o rfl (by omega) _ _ _ rfl HOA.o ⟨wr.heap.size,0,none⟩ 1 1 [.int .i64 0,.int .i64 ln,.int .i64 0,.string ⟨#[]⟩] rfl rfl (World.news_of_block (cs := #[.int .i64 0,.int .i64 ln,.int .i64 0,.string ⟨#[]⟩]) (t:=103) (fr:=(0,0)) (heap_alloc_new wr _)) (by simp[Value.oneCell']) (by unfold maxLen;omega) (by omega) (by simp;omega) ?_;intro v' w9 hown9 hgrow9 _;have HO9:=Xj hown9;have HG9:=Xj hgrow9;clear hown9 hgrow9)
 refine bodyPost_ret (v:=.tuple #[v',.int .i64 0,.int .i64 0]) (by simp[results,Tryz.results48,go_sem]) rfl ?_
 refine H9.o _ _ (HBA.o.grown HG9.o HBA.o.size (λ k hk=>(HOA.o.lt k hk).1)) (.inr ⟨acc++[⟨0,ln,0,[]⟩],v',by rw[HE.o],rfl,?_⟩)
 have:=HO9.o
 rw[<- Uq]
 simpa using this
structure RAt (w:World) (K:PC) (at_:Nat) (bad:Bool) (rest:List Tk):Prop where
 row:w.heap[K.g]?=some (.cells #[.slice K.al K.ts.length K.cl,.int .i64 (at_:Int),.bool bad,.int .i64 K.wr] 91 (0,0))
 tk:Tks w K.al K.ts
 ne:∀ x,K.al=some x->x.block≠K.g
 dr:K.ts.drop at_=rest
 en:Qv rest
 cap:K.ts.length<=K.cl/\K.cl<=maxLen
 n:K.ts.length<=100000
theorem RAt.lt {w:World} {K:PC} {at_:Nat} {bad:Bool} {rest:List Tk} (h:RAt w K at_ bad rest):at_<K.ts.length/\K.ts.length=at_+rest.length:=by
 obtain⟨x,r,e⟩:=h.en.cons
 have h1:=h.dr
 rw[e] at h1
 have h2:=congrArg List.length h1
 rw[List.length_drop,List.length_cons] at h2
 rw[e,List.length_cons]
 omega
theorem RAt.glt {w:World} {K:PC} {at_:Nat} {bad:Bool} {rest:List Tk} (h:RAt w K at_ bad rest):K.g<w.heap.size:=Xp h.row
theorem RAt.grown {w w':World} {K:PC} {at_:Nat} {bad:Bool} {rest:List Tk} {r:Option Nat} (h:RAt w K at_ bad rest) (hg:w.grownBy w' r) (hr:∀ k,r=some k->k≠K.g/\∀ x,K.al=some x->x.block≠k):RAt w' K at_ bad rest :=
 {h with
  row:=(hg.block K.g h.glt (λ e=>(hr K.g e.symm).1 rfl)).trans h.row
  tk:=λ j x hj=>by
   obtain⟨b,off,e,hb,h0,h1,h2,h3⟩:=h.tk j x hj
   have key:w'.heap[b]?=w.heap[b]?:=hg.block b hb (λ e2=>(hr b e2.symm).2 _ e rfl)
   have kc:∀ o,w'.cell? ⟨b,o,none⟩=w.cell? ⟨b,o,none⟩:=λ o=>World.cell?_of_block (a:=⟨b,o,none⟩) key
   exact⟨b,off,e,by have:=hg.size;omega,(kc _).trans h0,(kc _).trans h1,(kc _).trans h2,(kc _).trans h3⟩ }
theorem RAt.below {w w':World} {K:PC} {at_:Nat} {bad:Bool} {rest:List Tk} (h:RAt w K at_ bad rest) (hb:Below w.heap.size w w'):RAt w' K at_ bad rest:=h.grown (Xm hb none) (λ k e=>by cases e)
theorem RAt.tok {w:World} {K:PC} {at_:Nat} {bad:Bool} {rest:List Tk} (h:RAt w K at_ bad rest):∃ x r b off,rest=x::r/\K.al=some ⟨b,off,none⟩/\b<w.heap.size/\b≠K.g /\
  w.cell? ⟨b,off+at_*4,none⟩=some (.int .i64 x.k)/\w.cell? ⟨b,off+at_*4+1,none⟩=some (.int .i64 x.n)/\w.cell? ⟨b,off+at_*4+2,none⟩=some (.int .i64 x.v)/\w.cell? ⟨b,off+at_*4+3,none⟩=some (.string (st x.t)):=by
 obtain⟨x,r,e⟩:=h.en.cons
 have h1:=h.dr
 rw[e] at h1
 have hx:K.ts[at_]?=some x:=by
  have:=congrArg (λ l=>l[0]?) h1
  simpa using this
 obtain⟨b,off,e2,hb,h0,h2,h3,h4⟩:=h.tk at_ x hx
 exact⟨x,r,b,off,e,e2,hb,h.ne _ e2,h0,h2,h3,h4⟩
theorem RAt.step {w:World} {K:PC} {at_:Nat} {bad:Bool} {rest:List Tk} (h:RAt w K at_ bad rest) (hk:kOf rest≠0):RAt (w.setCell ⟨K.g,1,none⟩ (.int .i64 ((at_:Int)+1))) K (at_+1) bad rest.tail :=
 have hjp:=Xc w K.g 1 (.int .i64 ((at_:Int)+1))
 {row:=heap_setCell_same w K.g 1 _ _ _ h.row
  tk:=λ j x hj=>by
   obtain⟨b,off,e,hb,h0,h1,h2,h3⟩:=h.tk j x hj
   have key:(w.setCell ⟨K.g,1,none⟩ (.int .i64 ((at_:Int)+1))).heap[b]?=w.heap[b]?:=hjp.block b hb (λ e2=>by injection e2 with e2;exact h.ne _ e e2)
   have kc:∀ o,(w.setCell ⟨K.g,1,none⟩ (.int .i64 ((at_:Int)+1))).cell? ⟨b,o,none⟩=w.cell? ⟨b,o,none⟩:=λ o=>World.cell?_of_block (a:=⟨b,o,none⟩) key
   exact⟨b,off,e,by have:=hjp.size;omega,(kc _).trans h0,(kc _).trans h1,(kc _).trans h2,(kc _).trans h3⟩
  ne:=h.ne
  dr:=by rw[<- h.dr,List.tail_drop]
  en:=h.en.kOf hk
  cap:=h.cap
  n:=h.n }
theorem RAt.cells {w:World} {K:PC} {at_:Nat} {bad:Bool} {rest:List Tk} (h:RAt w K at_ bad rest):w.cell? ⟨K.g,0,none⟩=some (.slice K.al K.ts.length K.cl)/\w.cell? ⟨K.g,1,none⟩=some (.int .i64 (at_:Int))/\w.cell? ⟨K.g,2,none⟩=some (.bool bad) /\
  w.frozen? ⟨K.g,1,none⟩=false/\w.frozen? ⟨K.g,2,none⟩=false/\K.g<w.heap.size :=
 ⟨cell_of_row _ _ 0 _ _ _ h.row,cell_of_row _ _ 1 _ _ _ h.row,cell_of_row _ _ 2 _ _ _ h.row,frozen_of_row _ _ 1 _ _ h.row,frozen_of_row _ _ 2 _ _ h.row,h.glt⟩
theorem Ay (K:PC) (at_:Nat) (bad:Bool) (rest:List Tk) (w:World) (h:RAt w K at_ bad rest):Calls Tryz.prog 85 #[.pointer (some ⟨K.g,0,none⟩)] w λ e w'=>e=.returned (Hx (hdT rest))/\Below w.heap.size w w':=by
 have hlt:=h.lt.1
 have hjq:=h.cap
 have hn:=h.n
 have hr:=heap_alloc_new w (.cells #[.int .i64 0,.int .i64 0,.int .i64 0,.string ⟨#[]⟩] 103)
 have hbA:=Xk w (.cells #[.int .i64 0,.int .i64 0,.int .i64 0,.string ⟨#[]⟩] 103)
 have hqx:=h.glt
 obtain⟨x,r,b,off,rfl,hal,hb,hbg,t0,t1,t2,t3⟩:=h.tok
 obtain⟨p0,p1,-,-,-,-⟩:=h.cells
 rw[hal] at p0
 have q0:=(hbA.cell (p:=⟨K.g,0,none⟩) hqx).trans p0
 have q1:=(hbA.cell (p:=⟨K.g,1,none⟩) hqx).trans p1
 have s0:=(hbA.cell (p:=⟨b,off+at_*4,none⟩) hb).trans t0
 have s1:=(hbA.cell (p:=⟨b,off+at_*4+1,none⟩) hb).trans t1
 have s2:=(hbA.cell (p:=⟨b,off+at_*4+2,none⟩) hb).trans t2
 have s3:=(hbA.cell (p:=⟨b,off+at_*4+3,none⟩) hb).trans t3
 obtain⟨k,n,v,tt⟩:=x
 dsimp only at *
 obtain⟨g,hg⟩:∃ g,K.g=g:=⟨_,rfl⟩
 obtain⟨N,hN⟩:∃ N,K.ts.length=N:=⟨_,rfl⟩
 obtain⟨cl,hcl⟩:∃ c,K.cl=c:=⟨_,rfl⟩
 rw[hN,hcl] at hjq q0
 rw[hN] at hlt hn
 rw[hg] at q0 q1 hqx hbg ⊢
 have hcl2:cl<=9223372036854775807:=by have:=hjq.2;unfold maxLen at this;omega
 have hqf:(at_:Int)<(N:Int):=by omega
 clear h hal p0 p1 t0 t1 t2 t3 hN hcl hg
 go_enter Tryz.func85,Tryz.ntmps85
 go_upto_region 1 with fail
 obtain⟨w1,hw1⟩:∃ W,w.alloc (.cells #[.int .i64 0,.int .i64 0,.int .i64 0,.string ⟨#[]⟩] 103)=W:=⟨_,rfl⟩
 obtain⟨gr,hgr⟩:∃ x,w.heap.size=x:=⟨_,rfl⟩
 rw[hw1] at hr hbA q0 q1 s0 s1 s2 s3 ⊢
 rw[hgr] at hr hqx hb
 (try rw[hgr])
 have HB:=Xj (And.intro hbA hgr)
 have HR:=Xj hr
 have n1:gr≠g:=by omega
 have n2:gr≠b:=by omega
 clear hw1 hgr hbA hr
 refine wp_region_held_drew (S:=(λ w'=>w'.cell? ⟨g,0,none⟩=some (.slice (some ⟨b,off,none⟩) N cl)/\w'.cell? ⟨g,1,none⟩=some (.int .i64 (at_:Int))/\w'.cell? ⟨b,off+at_*4,none⟩=some (.int .i64 k)/\w'.cell? ⟨b,off+at_*4+1,none⟩=some (.int .i64 n)/\w'.cell? ⟨b,off+at_*4+2,none⟩=some (.int .i64 v)/\w'.cell? ⟨b,off+at_*4+3,none⟩=some (.string (st tt)))) (by kernel_rfl) ⟨q0,q1,s0,s1,s2,s3⟩ (λ hJ=>?_)
 refine tkH 0 3 ?_
 refine tkH 1 4 ?_
 refine tkH 2 5 ?_
 refine tkH 3 6 ?_
 refine tkH 4 7 ?_
 refine tkH 5 8 ?_
 refine tkH 6 9 ?_
 refine tkH 7 10 ?_
 refine tkH 8 11 ?_
 refine tkH 9 12 ?_
 refine rdH 10 λ K0 hK=>?_
 have c0:=cell_of_row _ _ 0 _ _ _ HR.o
 have c1:=cell_of_row _ _ 1 _ _ _ HR.o
 have c2:=cell_of_row _ _ 2 _ _ _ HR.o
 have c3:=cell_of_row _ _ 3 _ _ _ HR.o
 have f0:=frozen_of_row _ gr 0 _ _ HR.o
 have f1:=frozen_of_row _ gr 1 _ _ HR.o
 have f2:=frozen_of_row _ gr 2 _ _ HR.o
 have f3:=frozen_of_row _ gr 3 _ _ HR.o
 have jl:=Xp HR.o
 go_simp
 refine goH hK ⟨Xf n1 hJ.1,Xf n1 hJ.2.1,Xf n2 hJ.2.2.1,Xf n2 hJ.2.2.2.1,Xf n2 hJ.2.2.2.2.1,Xf n2 hJ.2.2.2.2.2⟩ λ hJ=>?_
 clear hK K0
 refine wpAnyH_done (by kernel_rfl) ?_ _
 refine Xz ?_
 have hY:=Ym (w:=w1) (v0:=.int .i64 k) (v1:=.int .i64 n) (v2:=.int .i64 v) (v3:=.string (st tt)) HR.o
 have Hi:=(Yp (w:=w1) (B:=w.heap.size) (w0:=w) (b:=gr) (v0:=.int .i64 k) (v1:=.int .i64 n) (v2:=.int .i64 v) (v3:=.string (st tt)) HB.o.1 (by rw[HB.o.2];exact Nat.le_refl _)).drew
 have hY:(set4 w1 gr (.int .i64 k) (.int .i64 n) (.int .i64 v) (.string (st tt))).drew.heap[gr]?=some (.cells #[.int .i64 k,.int .i64 n,.int .i64 v,.string (st tt)] 103 (0,0)):=hY
 have d0:=cell_of_row _ _ 0 _ _ _ hY
 have d1:=cell_of_row _ _ 1 _ _ _ hY
 have d2:=cell_of_row _ _ 2 _ _ _ hY
 have d3:=cell_of_row _ _ 3 _ _ _ hY
 have Ho:=Xj Hi
 obtain⟨wn,hwn⟩:∃ wn,(set4 w1 gr (.int .i64 k) (.int .i64 n) (.int .i64 v) (.string (st tt))).drew=wn:=⟨_,rfl⟩
 have He:=hwn
 unfold set4 at He
 rw[He]
 rw[hwn] at Ho d0 d1 d2 d3
 clear hwn He hY Hi c0 c1 c2 c3 f0 f1 f2 f3 jl hJ q0 q1 s0 s1 s2 s3
 go_wp2_with fail
 refine bodyPost_ret (v:=.agg #[.int .i64 k,.int .i64 n,.int .i64 v,.string (st tt)]) (by simp[results,Tryz.results85,go_sem,d0,d1,d2,d3]) rfl ?_
 exact⟨rfl,Ho.o⟩
theorem Jp (K:PC) (at_:Nat) (bad:Bool) (k n v:Int) (tt:Bt) (r:List Tk) (w:World) (h:RAt w K at_ bad (⟨k,n,v,tt⟩::r)):Calls Tryz.prog 85 #[.pointer (some ⟨K.g,0,none⟩)] w λ e w'=>e=.returned (.agg #[.int .i64 k,.int .i64 n,.int .i64 v,.string (st tt)])/\Below w.heap.size w w':=Ay K at_ bad _ w h
theorem Uh (K:PC) (at_:Nat) (bad:Bool) (rest:List Tk) (t:Bt) (w:World) (h:RAt w K at_ bad rest):Calls Tryz.prog 84 #[.pointer (some ⟨K.g,0,none⟩),.string (st t)] w λ e w'=>e=.returned (.bool (!bad&&isT t rest))/\Below w.heap.size w w':=by
 obtain⟨⟨k,n,v,tt⟩,r,rfl⟩:=h.en.cons
 have HP:=Xj h
 clear h
 go_enter Tryz.func84,Tryz.ntmps84
 go_wp2_with fail
 refine(Jp K at_ bad k n v tt r _ HP.o).mono ?_
 rintro e w2 ⟨rfl,hb2⟩
 have hb3:=Xk w2 (.cells #[.int .i64 k,.int .i64 n,.int .i64 v,.string (st tt)] 103)
 have hr:=heap_alloc_new w2 (.cells #[.int .i64 k,.int .i64 n,.int .i64 v,.string (st tt)] 103)
 go_upto_region 2 with fail
 obtain⟨w3,hw3⟩:∃ W,w2.alloc (.cells #[.int .i64 k,.int .i64 n,.int .i64 v,.string (st tt)] 103)=W:=⟨_,rfl⟩
 obtain⟨gr,hgr⟩:∃ x,w2.heap.size=x:=⟨_,rfl⟩
 rw[hw3] at hr hb3 ⊢
 rw[hgr] at hr
 (try rw[hgr])
 have HB:=Xj (hb2.trans (hb3.mono hb2.size))
 have c0:=cell_of_row _ _ 0 _ _ _ hr
 have c3:=cell_of_row _ _ 3 _ _ _ hr
 have hl:=Xp hr
 obtain⟨-,-,p2,-,-,hlp⟩:=(HP.o.below HB.o).cells
 clear hw3 hgr hr hb3 hb2
 cases bad
 ·cases h3:(k==3)
  ·cases h4:(k==4)
   ·have HE:Xq (isT t ({ k:=k,n:=n,v:=v,t:=tt }::r)=false):=Xj (by simp[isT,h3,h4])
    go_wp2_with fail
    go_ret
    exact⟨by rw[HE.o];try rfl,HB.o⟩
   have HE:Xq (isT t ({ k:=k,n:=n,v:=v,t:=tt }::r)=(tt==t)):=Xj (by simp[isT,h3,h4])
   go_wp2_with fail
   go_ret
   exact⟨by rw[HE.o];try rfl,HB.o⟩
  have HE:Xq (isT t ({ k:=k,n:=n,v:=v,t:=tt }::r)=(tt==t)):=Xj (by simp[isT,h3])
  go_wp2_with fail
  go_ret
  exact⟨by rw[HE.o];try rfl,HB.o⟩
 go_wp2_with fail
 go_ret
 exact⟨by try rfl,HB.o⟩
def Fq (K:PC) (at_:Nat) (bad:Bool) (rest:List Tk) (t:Bt) (w:World) (e:Ending) (w':World):Prop :=
 ∃ at2 rest2,e=.returned (.bool (!bad&&isT t rest))/\RAt w' K at2 bad rest2/\w.grownBy w' (some K.g)/\((bad=false/\isT t rest=true/\at2=at_+1/\rest2=rest.tail)\/((!bad&&isT t rest)=false/\at2=at_/\rest2=rest))
theorem Zh (K:PC) (at_:Nat) (bad:Bool) (rest:List Tk) (t:Bt) (w:World) (h:RAt w K at_ bad rest):Calls Tryz.prog 102 #[.pointer (some ⟨K.g,0,none⟩),.string (st t)] w (Fq K at_ bad rest t w):=by
 have HP:=Xj h
 clear h
 go_enter Tryz.func102,Tryz.ntmps102
 go_wp2_with fail
 refine(Uh K at_ bad rest t _ HP.o).mono ?_
 rintro e w2 ⟨rfl,hb2⟩
 have HP2:=Xj (HP.o.below hb2)
 have HG2:=Xj (Xm hb2 (some K.g))
 clear hb2
 cases hT:(!bad&&isT t rest)
 ·have HT:=Xj hT
  clear hT
  go_wp2_with fail
  go_ret
  exact⟨at_,rest,by rw[HT.o];rfl,HP2.o,HG2.o,.inr ⟨HT.o,rfl,rfl⟩⟩
 obtain⟨rfl,hT2⟩:bad=false/\isT t rest=true:=by simpa using hT
 have HT:=Xj hT2
 obtain⟨-,p1,-,f1,-,hl⟩:=HP2.o.cells
 have hn:=HP2.o.n
 have hlt:=HP2.o.lt.1
 have hw1:IntKind.i64.wrap ((at_:Int)+1)=(at_:Int)+1:=by rw[IntKind.wrap_i64];omega
 have HF:=Xj (And.intro (HP2.o.step (Ys HT.o).2.2.1) (Xg HG2.o (Xc w2 K.g 1 (.int .i64 ((at_:Int)+1)))))
 clear hn hlt hT hT2
 go_wp2_with fail
 go_ret
 exact⟨at_+1,rest.tail,by rw[HT.o];rfl,HF.o.1,HF.o.2,.inl ⟨rfl,HT.o,rfl,rfl⟩⟩
section
def Lt (wx:World) (b:Nat) (x:Tk):Prop:=wx.heap[b]?=some (.cells #[.int .i64 x.k,.int .i64 x.n,.int .i64 x.v,.string (st x.t)] 103 (0,0))
section
variable {wx wy:World} {b:Nat} {x:Tk}
theorem Lt.lt (k:Lt wx b x):b<wx.heap.size:=Xp k
theorem Lt.al (k:Lt wx b x) (o:Obj):Lt (wx.alloc o) b x:=(Below.heap_alloc wx o b k.lt).trans k
theorem Lt.be (k:Lt wx b x) (hb:Below wx.heap.size wx wy):Lt wy b x:=(hb.block b k.lt).trans k
theorem Lt.gr {g:Nat} (k:Lt wx b x) (hg:wx.grownBy wy (some g)) (hn:b≠g):Lt wy b x:=(hg.block b k.lt (λ e=>by injection e with e;exact hn e)).trans k
theorem Lt.s1 (k:Lt wx b x) {p:Addr} {v:Value} (hn:b≠p.block):Lt (wx.setCell p v) b x:=(heap_setCell_other wx p b v hn).trans k
theorem Lt.cells (k:Lt wx b x):wx.cell? ⟨b,0,none⟩=some (.int .i64 x.k)/\wx.cell? ⟨b,1,none⟩=some (.int .i64 x.n)/\wx.cell? ⟨b,2,none⟩=some (.int .i64 x.v)/\wx.cell? ⟨b,3,none⟩=some (.string (st x.t)) :=
 ⟨cell_of_row wx b 0 _ _ _ k,cell_of_row wx b 1 _ _ _ k,cell_of_row wx b 2 _ _ _ k,cell_of_row wx b 3 _ _ _ k⟩
theorem Lt.new (w:World) (x:Tk):Lt (w.alloc (.cells #[.int .i64 x.k,.int .i64 x.n,.int .i64 x.v,.string (st x.t)] 103)) w.heap.size x:=heap_alloc_new w _
end
theorem Zs {K:PC} {lv:Lv} {rest:List Tk} {w wx:World} {gR at2:Nat} {r:List Tk} {h0:Hd} {s0:Value} (hm:MS K w wx at2 r) (hr:Lc wx gR h0 s0) (hg:w.heap.size<=gR) (hl:r.length<=rest.length) (h:Hd) (a:Option Addr) (n c:Nat) (ok:Bool)
  (hO:(ok=true/\∃ ar,Ps lv rest (.ok (Xb h ar) r)/\Xv wx (λ b=>w.heap.size<=b/\b≠gR) ar (.slice a n c)/\r.length<rest.length)\/(ok=false/\Ps lv rest (.bad r))) (W:World)
  (hW:W=set6 wx gR (.int .i64 h.k) (.int .i64 h.op) (.int .i64 h.v) (.int .i64 h.ln) (.string (st h.nm)) (.slice a n c)) :
  Lc W gR h (.slice a n c)/\EP K lv rest w (.returned (.tuple #[exv h (.slice a n c),.bool ok])) W:=by
 subst hW
 have h2:=hm.s6 hg (.int .i64 h.k) (.int .i64 h.op) (.int .i64 h.v) (.int .i64 h.ln) (.string (st h.nm)) (.slice a n c)
 refine⟨hr.s6 h _,h,a,n,c,ok,at2,r,rfl,h2.pat,hl,h2.gr,Xj ?_⟩
 rcases hO with⟨e1,ar,e2,e3,e4⟩|e
 ·exact .inl ⟨e1,ar,e2,Xy (Xd e3 (λ b hb=>hb.2)) (λ b hb _=>hb.1),e4⟩
 exact .inr e
theorem Hg (m:Nat) (hE:∀ j,j<m->CE 56 .ex j):CE 208 .pr m:=by
 intro K at_ rest w hP hm
 have HM1:=Xj ((MS.init hP).al zex)
 have HR1:=Xj (Lc.zero w)
 have HMm:=Xj hm
 have HE:Xq (∀ (w2:World) (at2:Nat) (r:List Tk),PAt w2 K at2 r->r.length<rest.length->Calls Tryz.prog 56 #[.pointer (some ⟨K.g,0,none⟩)] w2 (EP K .ex r w2)):=Xj (λ w2 at2 r hp hl=>hE r.length (by omega) K at2 r w2 hp (Nat.le_refl _))
 obtain⟨⟨tk,tn,tv,tt⟩,r0,hr0⟩:=hP.en.cons
 have HX0:=Xj hr0
 have HTV:=Xj hP.en
 clear hE hP hm hr0
 go_enter Tryz.func208,Tryz.ntmps208
 go_upto_region 1 with fail
 obtain⟨w1,hw1⟩:∃ W,w.alloc zex=W:=⟨_,rfl⟩
 obtain⟨gR,hgR⟩:∃ x,w.heap.size=x:=⟨_,rfl⟩
 (try rw[show w.alloc (.cells #[.int .i64 0,.int .i64 0,.int .i64 0,.int .i64 0,.string { data := #[] },.slice none 0 0] 37)=w1 from hw1])
 rw[hw1] at HM1 HR1
 rw[hgR] at HR1
 (try rw[hgR])
 have HGR:=Xj hgR
 have HS1:Xq (w1.heap.size=gR+1):=Xj (by rw[<- hw1,<- hgR];simp)
 clear hw1 hgR
 go_wp2_with fail
 refine(Zv K at_ tk tn tv tt r0 w1 (HX0.o▸HM1.o.pat)).mono ?_
 rintro e w2 ⟨rfl,hb2⟩
 have hs2:=hb2.size
 have HM3:=Xj ((HM1.o.be hb2).al (.cells #[.int .i64 tk,.int .i64 tn,.int .i64 tv,.string (st tt)] 103))
 have HR3:=Xj ((HR1.o.be hb2).al (.cells #[.int .i64 tk,.int .i64 tn,.int .i64 tv,.string (st tt)] 103))
 have HT3:=Xj (Lt.new w2 ⟨tk,tn,tv,tt⟩)
 clear hb2 HM1 HR1
 go_upto_block 0 with fail
 obtain⟨w3,hw3⟩:∃ W,w2.alloc (.cells #[.int .i64 tk,.int .i64 tn,.int .i64 tv,.string (st tt)] 103)=W:=⟨_,rfl⟩
 obtain⟨gt,hgt⟩:∃ x,w2.heap.size=x:=⟨_,rfl⟩
 (try rw[hw3])
 (try dsimp only at HT3)
 rw[hw3] at HM3 HR3 HT3
 rw[hgt] at HT3
 (try rw[hgt])
 have HGT:Xq (gR<gt):=Xj (by have:=HS1.o;omega)
 have hgg:=HM3.o.gl
 have hqv:=HGR.o
 have HGTo:=HGT.o
 clear hw3 hgt hs2
 obtain⟨t0,t1,t2,t3⟩:=HT3.o.cells
 obtain⟨y0,y1,y2,y3,y4,y5⟩:=HR3.o.cells
 obtain⟨g0,g1,g2,g3,g4,g5⟩:=HR3.o.froz
 have hlR:=HR3.o.lt
 have hlT:=HT3.o.lt
 (try dsimp only at t0 t1 t2 t3)
 have HKT:Xq (kOf rest=tk/\Yj rest=tn/\vOf rest=tv/\tOf rest=tt/\rest.tail=r0/\r0.length<rest.length):=Xj (by rw[HX0.o];exact⟨rfl,rfl,rfl,rfl,rfl,by simp⟩)
 by_cases h2:tk=2
 ·subst h2
  obtain⟨-,p1,-,f1,-,hlp⟩:=HM3.o.pat.cells
  have hw1:=HM3.o.w1
  have HM4:=Xj (HM3.o.step (by have:=HKT.o.1;omega))
  have HR4:=Xj (HR3.o.s1 (p:=⟨K.g,1,none⟩) (v:=.int .i64 ((at_:Int)+1)) (by show gR≠K.g;omega))
  have HT4:=Xj (HT3.o.s1 (p:=⟨K.g,1,none⟩) (v:=.int .i64 ((at_:Int)+1)) (by show gt≠K.g;omega))
  go_wp2_with fail
  have hY:=Zs (lv:=.pr) (rest:=rest) HM4.o HR4.o (show w.heap.size<=gR by have:=HGR.o;omega) (by rw[HKT.o.2.2.2.2.1];exact Nat.le_of_lt HKT.o.2.2.2.2.2) ⟨1,0,tv,tn,[]⟩ none 0 0 true (.inl ⟨rfl,.nil,by have h:=Ps.pr_num (ts:=rest) HKT.o.1;rw[HKT.o.2.1,HKT.o.2.2.1] at h;exact h,Xv.nil _ _,by rw[HKT.o.2.2.2.2.1];exact HKT.o.2.2.2.2.2⟩)
  obtain⟨wz,hwz⟩:∃ W,set6 (w3.setCell ⟨K.g,1,none⟩ (.int .i64 ((at_:Int)+1))) gR (.int .i64 1) (.int .i64 0) (.int .i64 tv) (.int .i64 tn) (.string { data := #[] }) (.slice none 0 0)=W:=⟨_,rfl⟩
  have hZ:=hwz
  unfold set6 at hZ
  (try rw[hZ])
  obtain⟨hd,hep⟩:=hY wz hwz.symm
  obtain⟨d0,d1,d2,d3,d4,d5⟩:=hd.cells
  refine bodyPost_ret (v:=.tuple #[exv ⟨1,0,tv,tn,[]⟩ (.slice none 0 0),.bool true]) (by simp[results,Tryz.results208,go_sem,d0,d1,d2,d3,d4,d5]) rfl ?_
  exact hep
 by_cases h1:tk=1
 ·subst h1
  obtain⟨-,p1,-,f1,-,hlp⟩:=HM3.o.pat.cells
  have hw1:=HM3.o.w1
  have HM4:=Xj (HM3.o.step (by have:=HKT.o.1;omega))
  have HR4:=Xj (HR3.o.s1 (p:=⟨K.g,1,none⟩) (v:=.int .i64 ((at_:Int)+1)) (by show gR≠K.g;omega))
  have HT4:=Xj (HT3.o.s1 (p:=⟨K.g,1,none⟩) (v:=.int .i64 ((at_:Int)+1)) (by show gt≠K.g;omega))
  go_upto_region 7 with fail
  obtain⟨w4,hw4⟩:∃ W,w3.setCell ⟨K.g,1,none⟩ (.int .i64 ((at_:Int)+1))=W:=⟨_,rfl⟩
  rw[hw4] at HM4 HR4 HT4 ⊢
  clear hw4 p1 f1 hw1 hlp t0 t1 t2 t3 y0 y1 y2 y3 y4 y5 g0 g1 g2 g3 g4 g5 hlR hlT
  go_wp2_with fail
  refine(Yd K (at_+1) rest.tail [91] _ HM4.o.pat).mono ?_
  rintro e w5 ⟨at5,r5,rfl,hp5,hg5,hc5⟩
  have HM5:=Xj (HM4.o.call hp5 hg5)
  have HR5:=Xj (HR4.o.gr hg5 (by omega))
  have HT5:=Xj (HT4.o.gr hg5 (by omega))
  obtain⟨t0,t1,t2,t3⟩:=HT5.o.cells
  (try dsimp only at t0 t1 t2 t3)
  obtain⟨y0,y1,y2,y3,y4,y5⟩:=HR5.o.cells
  obtain⟨g0,g1,g2,g3,g4,g5⟩:=HR5.o.froz
  have hlR:=HR5.o.lt
  have hlT:=HT5.o.lt
  clear hp5 hg5
  rcases hc5 with⟨hT,rfl,rfl⟩|⟨hT,rfl,rfl⟩
  ·have HT:=Xj hT
   rw[hT]
   have HRT:Xq (rest.tail.tail.length<rest.length/\rest.tail.length<rest.length):=Xj (by rw[HX0.o];simp<;>omega)
   clear hT t0 t1 t2 t3 y0 y1 y2 y3 y4 y5 g0 g1 g2 g3 g4 g5 hlR hlT
   go_wp2_with fail
   refine(HE.o _ _ _ HM5.o.pat (by exact HRT.o.1)).mono ?_
   rintro e w7 ⟨h,a,n,c,ok,at7,r7,rfl,hp7,hI,hg7,hH⟩
   have hs7:=hg7.size
   have hws:=HM5.o.gr.size
   have hlRs:=HR5.o.lt
   have hlTs:=HT5.o.lt
   have HM8:=Xj ((HM5.o.call hp7 hg7).al (.cells (ecs h (.slice a n c)) 37))
   have HR8:=Xj ((HR5.o.gr hg7 (by omega)).al (.cells (ecs h (.slice a n c)) 37))
   have HT8:=Xj ((HT5.o.gr hg7 (by omega)).al (.cells (ecs h (.slice a n c)) 37))
   have HX8:=Xj (Lc.new w7 h (.slice a n c))
   have H5:Xq ((ok=true/\∃ ar,Ps .ex rest.tail.tail (.ok (Xb h ar) r7)/\Xv (w7.alloc (.cells (ecs h (.slice a n c)) 37)) (TBk w gR w7.heap.size) ar (.slice a n c)/\r7.length<rest.tail.tail.length)\/(ok=false/\Ps .ex rest.tail.tail (.bad r7))):=Xj (by
    rcases hH.o with⟨e1,ar2,e2,e3,e4⟩|hr
    ·exact .inl ⟨e1,ar2,e2,Xy (Yu _ e3) (λ b hb _=>⟨by have:=hb.1;omega,by have:=hb.1;omega,hb.2⟩),e4⟩
    exact .inr hr)
   have HL7:=Xj hI
   clear hH hp7 hg7 hI
   go_upto_region 10 with fail
   obtain⟨w8,hw8⟩:∃ W,w7.alloc (.cells (ecs h (.slice a n c)) 37)=W:=⟨_,rfl⟩
   obtain⟨gx,hgx⟩:∃ x,w7.heap.size=x:=⟨_,rfl⟩
   (try rw[show w7.alloc (.cells #[.int .i64 h.k,.int .i64 h.op,.int .i64 h.v,.int .i64 h.ln,.string (st h.nm),.slice a n c] 37)=w8 from hw8])
   rw[hw8] at HM8 HR8 HT8 HX8 H5
   rw[hgx] at HX8 H5 hs7
   (try rw[hgx])
   clear hw8 hgx
   obtain⟨q0,q1,q2,q3,q4,q5⟩:=HX8.o.cells
   obtain⟨s0,s1,s2,s3⟩:=HT8.o.cells
   (try dsimp only at s0 s1 s2 s3)
   have hqd:=HX8.o.lt
   have hlT8:=HT8.o.lt
   have hngx:gx≠K.g:=by omega
   have hngt:gt≠K.g:=by omega
   have hzu:gR≠K.g:=by omega
   cases ok
   ·have HB:Xq (Ps .pr rest (.bad r7)):=Xj (by
     rcases H5.o with⟨h1,_⟩|⟨_,h1⟩
     ·cases h1
     exact Ps.pr_el_bad HKT.o.1 HT.o h1)
    clear H5
    refine wp_region_held_drew (S:=(λ w'=>w'.cell? ⟨gt,3,none⟩=some (.string (st tt))/\w'.cell? ⟨gt,1,none⟩=some (.int .i64 tn)/\w'.cell? ⟨gx,0,none⟩=some (.int .i64 h.k)/\w'.cell? ⟨gx,1,none⟩=some (.int .i64 h.op)/\w'.cell? ⟨gx,2,none⟩=some (.int .i64 h.v)/\w'.cell? ⟨gx,3,none⟩=some (.int .i64 h.ln)/\w'.cell? ⟨gx,4,none⟩=some (.string (st h.nm))/\w'.cell? ⟨gx,5,none⟩=some (.slice a n c))) (by kernel_rfl) ⟨s3,s1,q0,q1,q2,q3,q4,q5⟩ (λ hJ=>?_)
    refine tkH 0 53 ?_
    refine tkH 1 54 ?_
    refine tkH 2 55 ?_
    refine tkH 3 56 ?_
    refine tkH 4 57 ?_
    refine tkH 7 60 ?_
    refine tkH 8 61 ?_
    refine tkU 9 62 ?_
    refine tkU 10 63 ?_
    refine tkH 11 64 ?_
    obtain⟨wd,hwd⟩:∃ W,w8.drew=W:=⟨_,rfl⟩
    have HMd:Xq (MS K w wd at7 r7):=Xj (by rw[<- hwd];exact HM8.o.be (Below.refl _ _).drew)
    have HRd:Xq (Lc wd gR zhd (.slice none 0 0)):=Xj (by rw[<- hwd];exact HR8.o)
    rw[hwd] at hJ ⊢
    have hsd:w8.heap.size=wd.heap.size:=by rw[<- hwd];rfl
    clear hwd
    refine rdH 5 λ K0 hK=>?_
    go_simp
    refine goH hK ⟨Xu _ hJ.1,Xu _ hJ.2.1,Xu _ hJ.2.2.1,Xu _ hJ.2.2.2.1,Xu _ hJ.2.2.2.2.1,Xu _ hJ.2.2.2.2.2.1,Xu _ hJ.2.2.2.2.2.2.1,Xu _ hJ.2.2.2.2.2.2.2⟩ λ hJ=>?_
    clear hK K0
    obtain⟨wn,hwn⟩:∃ W,wd.alloc (.cells #[.int .i64 h.k,.int .i64 h.op,.int .i64 h.v,.int .i64 h.ln,.string (st h.nm),.slice a n c] 37)=W:=⟨_,rfl⟩
    obtain⟨gs,hgs⟩:∃ x,wd.heap.size=x:=⟨_,rfl⟩
    have HM9:Xq (MS K w wn at7 r7):=Xj (by rw[<- hwn];exact HMd.o.al _)
    have HR9:Xq (Lc wn gR zhd (.slice none 0 0)):=Xj (by rw[<- hwn];exact HRd.o.al _)
    rw[hwn] at hJ ⊢
    (try rw[hgs])
    have hgs8:w8.heap.size=gs:=by omega
    clear hwn hgs
    refine tkH 6 59 ?_
    obtain⟨u0,u1,u2,u3,u4,u5⟩:=HR9.o.cells
    obtain⟨k0,k1,k2,k3,k4,k5⟩:=HR9.o.froz
    have hzb:=HR9.o.lt
    refine rdH 12 λ K0 hK=>?_
    go_simp
    refine goH hK ⟨Xw (by omega) hJ.1,Xw (by omega) hJ.2.1,Xw (by omega) hJ.2.2.1,Xw (by omega) hJ.2.2.2.1,Xw (by omega) hJ.2.2.2.2.1,Xw (by omega) hJ.2.2.2.2.2.1,Xw (by omega) hJ.2.2.2.2.2.2.1,Xw (by omega) hJ.2.2.2.2.2.2.2⟩ λ hJ=>?_
    clear hK K0
    refine tkH 13 3 ?_
    refine wpAnyH_done (by kernel_rfl) ?_ _
    refine Xz ?_
    clear u0 u1 u2 u3 u4 u5 k0 k1 k2 k3 k4 k5 hJ
    have hY:=Zs (lv:=.pr) (rest:=rest) HM9.o HR9.o (show w.heap.size<=gR by omega) (by have h1:=HL7.o;have h2:=HRT.o.1;omega) ⟨4,0,0,tn,tt⟩ (some ⟨gs,0,none⟩) 1 1 false (.inr ⟨rfl,HB.o⟩)
    obtain⟨wz,hwz⟩:∃ W,set6 wn gR (.int .i64 4) (.int .i64 0) (.int .i64 0) (.int .i64 tn) (.string (st tt)) (.slice (some ⟨gs,0,none⟩) 1 1)=W:=⟨_,rfl⟩
    have hZ:=hwz
    unfold set6 at hZ
    (try rw[hZ])
    obtain⟨hd,hep⟩:=hY wz hwz.symm
    obtain⟨d0,d1,d2,d3,d4,d5⟩:=hd.cells
    clear hY
    go_wp2_with fail
    refine bodyPost_ret (v:=.tuple #[exv ⟨4,0,0,tn,tt⟩ (.slice (some ⟨gs,0,none⟩) 1 1),.bool false]) (by simp[results,Tryz.results208,go_sem,d0,d1,d2,d3,d4,d5]) rfl ?_
    exact hep
   obtain⟨ar,hps,har,hlt⟩:∃ ar,Ps .ex rest.tail.tail (.ok (Xb h ar) r7)/\Xv w8 (TBk w gR gx) ar (.slice a n c)/\r7.length<rest.tail.tail.length:=by
    rcases H5.o with⟨_,h1⟩|⟨h1,_⟩
    ·exact h1
    cases h1
   have HPS:=Xj hps
   have HAR:=Xj har
   have HLT:=Xj hlt
   clear hps har hlt H5
   refine wp_region_held_drew (S:=(λ w'=>w'.cell? ⟨gt,3,none⟩=some (.string (st tt))/\w'.cell? ⟨gt,1,none⟩=some (.int .i64 tn)/\w'.cell? ⟨gx,0,none⟩=some (.int .i64 h.k)/\w'.cell? ⟨gx,1,none⟩=some (.int .i64 h.op)/\w'.cell? ⟨gx,2,none⟩=some (.int .i64 h.v)/\w'.cell? ⟨gx,3,none⟩=some (.int .i64 h.ln)/\w'.cell? ⟨gx,4,none⟩=some (.string (st h.nm))/\w'.cell? ⟨gx,5,none⟩=some (.slice a n c))) (by kernel_rfl) ⟨s3,s1,q0,q1,q2,q3,q4,q5⟩ (λ hJ=>?_)
   refine tkH 0 53 ?_
   refine tkH 1 54 ?_
   refine tkH 2 55 ?_
   refine tkH 3 56 ?_
   refine tkH 4 57 ?_
   refine tkH 7 60 ?_
   refine tkH 8 61 ?_
   refine tkH 9 62 ?_
   obtain⟨wd,hwd⟩:∃ W,w8.drew=W:=⟨_,rfl⟩
   have HMd:Xq (MS K w wd at7 r7):=Xj (by rw[<- hwd];exact HM8.o.be (Below.refl _ _).drew)
   have HRd:Xq (Lc wd gR zhd (.slice none 0 0)):=Xj (by rw[<- hwd];exact HR8.o)
   have HARd:Xq (Xv wd (TBk w gR gx) ar (.slice a n c)):=Xj (by rw[<- hwd];exact HAR.o.keep (λ b hb hlt=>⟨rfl,hb⟩) (Nat.le_refl _))
   rw[hwd] at hJ ⊢
   have hsd:w8.heap.size=wd.heap.size:=by rw[<- hwd];rfl
   clear hwd
   refine wpAnyH_ready (rs:=[5,10]) (by kernel_rfl) (by simp) ?_
   refine AllReadyH.cons rfl (λ K0 hK=>?_) (AllReadyH.cons rfl (λ K0 hK=>?_) AllReadyH.nil)
   ·go_simp
    refine goH hK ⟨Xu _ hJ.1,Xu _ hJ.2.1,Xu _ hJ.2.2.1,Xu _ hJ.2.2.2.1,Xu _ hJ.2.2.2.2.1,Xu _ hJ.2.2.2.2.2.1,Xu _ hJ.2.2.2.2.2.2.1,Xu _ hJ.2.2.2.2.2.2.2⟩ λ hJ=>?_
    clear hK K0
    obtain⟨wa,hwn⟩:∃ W,wd.alloc (.cells #[.int .i64 h.k,.int .i64 h.op,.int .i64 h.v,.int .i64 h.ln,.string (st h.nm),.slice a n c] 37)=W:=⟨_,rfl⟩
    obtain⟨gs,hgs⟩:∃ x,wd.heap.size=x:=⟨_,rfl⟩
    have hAA:=Jq (Q:=λ b=>w.heap.size<=b/\b≠gR) (h1:=h) HARd.o (λ b hb _=>⟨hb.1,hb.2.1⟩) ⟨by have:=HMd.o.gr.size;omega,by have:=HRd.o.lt;omega⟩
    rw[hwn,hgs] at hAA
    have HAA:=Xj hAA
    have HMa:Xq (MS K w wa _ _):=Xj (by rw[<- hwn];exact HMd.o.al _)
    have HRa:Xq (Lc wa gR zhd (.slice none 0 0)):=Xj (by rw[<- hwn];exact HRd.o.al _)
    rw[hwn] at hJ ⊢
    (try rw[hgs])
    have hszn:wd.heap.size<=wa.heap.size:=by rw[<- hwn];simp
    clear hwn hgs hAA
    refine tkH 6 59 ?_
    refine rdH 10 λ K0 hK=>?_
    go_simp
    refine(Yd K at7 r7 [93] _ HMa.o.pat).mono ?_
    rintro e wn ⟨at9,r9,rfl,hp9,hg9,hc9⟩
    have hjj:∀ p:Addr,p.block<wa.heap.size->p.block≠K.g->wn.cell? p=wa.cell? p:=λ p hp hn=>hg9.cell_far p hp (by simp;omega)
    refine goH hK ⟨(hjj ⟨gt,3,none⟩ (by show gt<_;omega) (by show gt≠K.g;omega)).trans hJ.1,(hjj ⟨gt,1,none⟩ (by show gt<_;omega) (by show gt≠K.g;omega)).trans hJ.2.1,(hjj ⟨gx,0,none⟩ (by show gx<_;omega) (by show gx≠K.g;omega)).trans hJ.2.2.1,(hjj ⟨gx,1,none⟩ (by show gx<_;omega) (by show gx≠K.g;omega)).trans hJ.2.2.2.1,(hjj ⟨gx,2,none⟩ (by show gx<_;omega) (by show gx≠K.g;omega)).trans hJ.2.2.2.2.1,(hjj ⟨gx,3,none⟩ (by show gx<_;omega) (by show gx≠K.g;omega)).trans hJ.2.2.2.2.2.1,(hjj ⟨gx,4,none⟩ (by show gx<_;omega) (by show gx≠K.g;omega)).trans hJ.2.2.2.2.2.2.1,(hjj ⟨gx,5,none⟩ (by show gx<_;omega) (by show gx≠K.g;omega)).trans hJ.2.2.2.2.2.2.2⟩ λ hJ=>?_
    clear hK K0
    have HM9:=Xj (HMa.o.call hp9 hg9)
    have HR9:=Xj (HRa.o.gr hg9 hzu)
    have HAF:=Xj (Yl HAA.o hg9 (λ b hb=>by have:=hb.1;omega))
    clear hp9 hjj
    refine tkH 11 64 ?_
    obtain⟨u0,u1,u2,u3,u4,u5⟩:=HR9.o.cells
    obtain⟨k0,k1,k2,k3,k4,k5⟩:=HR9.o.froz
    have hzb:=HR9.o.lt
    refine rdH 12 λ K0 hK=>?_
    go_simp
    refine goH hK ⟨Xw (by omega) hJ.1,Xw (by omega) hJ.2.1,Xw (by omega) hJ.2.2.1,Xw (by omega) hJ.2.2.2.1,Xw (by omega) hJ.2.2.2.2.1,Xw (by omega) hJ.2.2.2.2.2.1,Xw (by omega) hJ.2.2.2.2.2.2.1,Xw (by omega) hJ.2.2.2.2.2.2.2⟩ λ hJ=>?_
    clear hK K0
    refine tkH 13 3 ?_
    refine wpAnyH_done (by kernel_rfl) ?_ _
    refine Xz ?_
    clear u0 u1 u2 u3 u4 u5 k0 k1 k2 k3 k4 k5 hJ
    rcases hc9 with⟨h93,rfl,rfl⟩|⟨h93,rfl,rfl⟩
    ·(try rw[h93])
     have hY:=Zs (lv:=.pr) (rest:=rest) HM9.o HR9.o (show w.heap.size<=gR by omega) (by have h1:=HLT.o;have h2:=HRT.o.1;simp only[List.length_tail] at h1 ⊢;omega) ⟨4,0,0,tn,tt⟩ (some ⟨gs,0,none⟩) 1 1 true (.inl ⟨rfl,Xb h ar,(by have hh:=Ps.pr_el HKT.o.1 HT.o HPS.o h93;rw[HKT.o.2.1,HKT.o.2.2.2.1] at hh;exact hh),HAF.o,by have h1:=HLT.o;have h2:=HRT.o.1;simp only[List.length_tail] at h1 ⊢;omega⟩)
     obtain⟨wz,hwz⟩:∃ W,set6 wn gR (.int .i64 4) (.int .i64 0) (.int .i64 0) (.int .i64 tn) (.string (st tt)) (.slice (some ⟨gs,0,none⟩) 1 1)=W:=⟨_,rfl⟩
     have hZ:=hwz
     unfold set6 at hZ
     (try rw[hZ])
     obtain⟨hd,hep⟩:=hY wz hwz.symm
     obtain⟨d0,d1,d2,d3,d4,d5⟩:=hd.cells
     clear hY
     go_wp2_with fail
     refine bodyPost_ret (v:=.tuple #[exv ⟨4,0,0,tn,tt⟩ (.slice (some ⟨gs,0,none⟩) 1 1),.bool true]) (by simp[results,Tryz.results208,go_sem,d0,d1,d2,d3,d4,d5]) rfl ?_
     exact hep
    (try rw[h93])
    have hY:=Zs (lv:=.pr) (rest:=rest) HM9.o HR9.o (show w.heap.size<=gR by omega) (by have h1:=HL7.o;have h2:=HRT.o.1;omega) ⟨4,0,0,tn,tt⟩ (some ⟨gs,0,none⟩) 1 1 false (.inr ⟨rfl,Ps.pr_el_bad2 HKT.o.1 HT.o HPS.o h93⟩)
    obtain⟨wz,hwz⟩:∃ W,set6 wn gR (.int .i64 4) (.int .i64 0) (.int .i64 0) (.int .i64 tn) (.string (st tt)) (.slice (some ⟨gs,0,none⟩) 1 1)=W:=⟨_,rfl⟩
    have hZ:=hwz
    unfold set6 at hZ
    (try rw[hZ])
    obtain⟨hd,hep⟩:=hY wz hwz.symm
    obtain⟨d0,d1,d2,d3,d4,d5⟩:=hd.cells
    clear hY
    go_wp2_with fail
    refine bodyPost_ret (v:=.tuple #[exv ⟨4,0,0,tn,tt⟩ (.slice (some ⟨gs,0,none⟩) 1 1),.bool false]) (by simp[results,Tryz.results208,go_sem,d0,d1,d2,d3,d4,d5]) rfl ?_
    exact hep
   go_simp
   refine(Yd K at7 r7 [93] _ HMd.o.pat).mono ?_
   rintro e wc ⟨at9,r9,rfl,hp9,hg9,hc9⟩
   have hjj:∀ p:Addr,p.block<wd.heap.size->p.block≠K.g->wc.cell? p=wd.cell? p:=λ p hp hn=>hg9.cell_far p hp (by simp;omega)
   refine goH hK ⟨(hjj ⟨gt,3,none⟩ (by show gt<_;omega) (by show gt≠K.g;omega)).trans hJ.1,(hjj ⟨gt,1,none⟩ (by show gt<_;omega) (by show gt≠K.g;omega)).trans hJ.2.1,(hjj ⟨gx,0,none⟩ (by show gx<_;omega) (by show gx≠K.g;omega)).trans hJ.2.2.1,(hjj ⟨gx,1,none⟩ (by show gx<_;omega) (by show gx≠K.g;omega)).trans hJ.2.2.2.1,(hjj ⟨gx,2,none⟩ (by show gx<_;omega) (by show gx≠K.g;omega)).trans hJ.2.2.2.2.1,(hjj ⟨gx,3,none⟩ (by show gx<_;omega) (by show gx≠K.g;omega)).trans hJ.2.2.2.2.2.1,(hjj ⟨gx,4,none⟩ (by show gx<_;omega) (by show gx≠K.g;omega)).trans hJ.2.2.2.2.2.2.1,(hjj ⟨gx,5,none⟩ (by show gx<_;omega) (by show gx≠K.g;omega)).trans hJ.2.2.2.2.2.2.2⟩ λ hJ=>?_
   clear hK K0
   have HMc:=Xj (HMd.o.call hp9 hg9)
   have HRc:=Xj (HRd.o.gr hg9 hzu)
   have HARc:=Xj (Yl HARd.o hg9 (λ b hb=>by have:=hb.1;omega))
   have hszc:=hg9.size
   clear hp9 hjj
   refine tkH 11 64 ?_
   refine rdH 5 λ K0 hK=>?_
   go_simp
   refine goH hK ⟨Xu _ hJ.1,Xu _ hJ.2.1,Xu _ hJ.2.2.1,Xu _ hJ.2.2.2.1,Xu _ hJ.2.2.2.2.1,Xu _ hJ.2.2.2.2.2.1,Xu _ hJ.2.2.2.2.2.2.1,Xu _ hJ.2.2.2.2.2.2.2⟩ λ hJ=>?_
   clear hK K0
   obtain⟨wn,hwn⟩:∃ W,wc.alloc (.cells #[.int .i64 h.k,.int .i64 h.op,.int .i64 h.v,.int .i64 h.ln,.string (st h.nm),.slice a n c] 37)=W:=⟨_,rfl⟩
   obtain⟨gs,hgs⟩:∃ x,wc.heap.size=x:=⟨_,rfl⟩
   have hAA:=Jq (Q:=λ b=>w.heap.size<=b/\b≠gR) (h1:=h) HARc.o (λ b hb _=>⟨hb.1,hb.2.1⟩) ⟨by have:=HMc.o.gr.size;omega,by have:=HRc.o.lt;omega⟩
   rw[hwn,hgs] at hAA
   have HAA:=Xj hAA
   have HMa:Xq (MS K w wn _ _):=Xj (by rw[<- hwn];exact HMc.o.al _)
   have HRa:Xq (Lc wn gR zhd (.slice none 0 0)):=Xj (by rw[<- hwn];exact HRc.o.al _)
   rw[hwn] at hJ ⊢
   (try rw[hgs])
   have hszn:wc.heap.size<=wn.heap.size:=by rw[<- hwn];simp
   clear hwn hgs hAA
   have HM9:=HMa
   have HR9:=HRa
   have HAF:=HAA
   refine tkH 6 59 ?_
   obtain⟨u0,u1,u2,u3,u4,u5⟩:=HR9.o.cells
   obtain⟨k0,k1,k2,k3,k4,k5⟩:=HR9.o.froz
   have hzb:=HR9.o.lt
   refine rdH 12 λ K0 hK=>?_
   go_simp
   refine goH hK ⟨Xw (by omega) hJ.1,Xw (by omega) hJ.2.1,Xw (by omega) hJ.2.2.1,Xw (by omega) hJ.2.2.2.1,Xw (by omega) hJ.2.2.2.2.1,Xw (by omega) hJ.2.2.2.2.2.1,Xw (by omega) hJ.2.2.2.2.2.2.1,Xw (by omega) hJ.2.2.2.2.2.2.2⟩ λ hJ=>?_
   clear hK K0
   refine tkH 13 3 ?_
   refine wpAnyH_done (by kernel_rfl) ?_ _
   refine Xz ?_
   clear u0 u1 u2 u3 u4 u5 k0 k1 k2 k3 k4 k5 hJ
   rcases hc9 with⟨h93,rfl,rfl⟩|⟨h93,rfl,rfl⟩
   ·(try rw[h93])
    have hY:=Zs (lv:=.pr) (rest:=rest) HM9.o HR9.o (show w.heap.size<=gR by omega) (by have h1:=HLT.o;have h2:=HRT.o.1;simp only[List.length_tail] at h1 ⊢;omega) ⟨4,0,0,tn,tt⟩ (some ⟨gs,0,none⟩) 1 1 true (.inl ⟨rfl,Xb h ar,(by have hh:=Ps.pr_el HKT.o.1 HT.o HPS.o h93;rw[HKT.o.2.1,HKT.o.2.2.2.1] at hh;exact hh),HAF.o,by have h1:=HLT.o;have h2:=HRT.o.1;simp only[List.length_tail] at h1 ⊢;omega⟩)
    obtain⟨wz,hwz⟩:∃ W,set6 wn gR (.int .i64 4) (.int .i64 0) (.int .i64 0) (.int .i64 tn) (.string (st tt)) (.slice (some ⟨gs,0,none⟩) 1 1)=W:=⟨_,rfl⟩
    have hZ:=hwz
    unfold set6 at hZ
    (try rw[hZ])
    obtain⟨hd,hep⟩:=hY wz hwz.symm
    obtain⟨d0,d1,d2,d3,d4,d5⟩:=hd.cells
    clear hY
    go_wp2_with fail
    refine bodyPost_ret (v:=.tuple #[exv ⟨4,0,0,tn,tt⟩ (.slice (some ⟨gs,0,none⟩) 1 1),.bool true]) (by simp[results,Tryz.results208,go_sem,d0,d1,d2,d3,d4,d5]) rfl ?_
    exact hep
   (try rw[h93])
   have hY:=Zs (lv:=.pr) (rest:=rest) HM9.o HR9.o (show w.heap.size<=gR by omega) (by have h1:=HL7.o;have h2:=HRT.o.1;omega) ⟨4,0,0,tn,tt⟩ (some ⟨gs,0,none⟩) 1 1 false (.inr ⟨rfl,Ps.pr_el_bad2 HKT.o.1 HT.o HPS.o h93⟩)
   obtain⟨wz,hwz⟩:∃ W,set6 wn gR (.int .i64 4) (.int .i64 0) (.int .i64 0) (.int .i64 tn) (.string (st tt)) (.slice (some ⟨gs,0,none⟩) 1 1)=W:=⟨_,rfl⟩
   have hZ:=hwz
   unfold set6 at hZ
   (try rw[hZ])
   obtain⟨hd,hep⟩:=hY wz hwz.symm
   obtain⟨d0,d1,d2,d3,d4,d5⟩:=hd.cells
   clear hY
   go_wp2_with fail
   refine bodyPost_ret (v:=.tuple #[exv ⟨4,0,0,tn,tt⟩ (.slice (some ⟨gs,0,none⟩) 1 1),.bool false]) (by simp[results,Tryz.results208,go_sem,d0,d1,d2,d3,d4,d5]) rfl ?_
   exact hep
  have HT:=Xj hT
  rw[hT]
  clear hT
  go_wp2_with fail
  have hY:=Zs (lv:=.pr) (rest:=rest) HM5.o HR5.o (show w.heap.size<=gR by have:=HGR.o;omega) (by rw[HKT.o.2.2.2.2.1];exact Nat.le_of_lt HKT.o.2.2.2.2.2) ⟨13,0,0,tn,tt⟩ none 0 0 true (.inl ⟨rfl,.nil,by have h:=Ps.pr_name (ts:=rest) HKT.o.1 HT.o;rw[HKT.o.2.1,HKT.o.2.2.2.1] at h;exact h,Xv.nil _ _,by rw[HKT.o.2.2.2.2.1];exact HKT.o.2.2.2.2.2⟩)
  obtain⟨wz,hwz⟩:∃ W,set6 w5 gR (.int .i64 13) (.int .i64 0) (.int .i64 0) (.int .i64 tn) (.string (st tt)) (.slice none 0 0)=W:=⟨_,rfl⟩
  have hZ:=hwz
  unfold set6 at hZ
  (try rw[hZ])
  obtain⟨hd,hep⟩:=hY wz hwz.symm
  obtain⟨d0,d1,d2,d3,d4,d5⟩:=hd.cells
  refine bodyPost_ret (v:=.tuple #[exv ⟨13,0,0,tn,tt⟩ (.slice none 0 0),.bool true]) (by simp[results,Tryz.results208,go_sem,d0,d1,d2,d3,d4,d5]) rfl ?_
  exact hep
 have d2:(tk==2)=false:=by rw[beq_eq_false_iff_ne];exact h2
 have d1:(tk==1)=false:=by rw[beq_eq_false_iff_ne];exact h1
 have HN12:Xq (tk≠1/\tk≠2):=Xj ⟨h1,h2⟩
 clear h1 h2
 go_wp2_with fail
 refine(Yd K at_ rest [38] _ HM3.o.pat).mono ?_
 rintro e w4 ⟨at4,r4,rfl,hp4,hg4,hc4⟩
 have HM4:=Xj (HM3.o.call hp4 hg4)
 have HR4:=Xj (HR3.o.gr hg4 (by omega))
 have HT4:=Xj (HT3.o.gr hg4 (by omega))
 clear hp4 hg4
 rcases hc4 with⟨hT,rfl,rfl⟩|⟨hT,rfl,rfl⟩
 ·have HT:=Xj hT
  rw[hT]
  clear hT t0 t1 t2 t3 y0 y1 y2 y3 y4 y5 g0 g1 g2 g3 g4 g5 hlR hlT
  go_wp2_with fail
  refine(Ru K (at_+1) rest.tail _ HM4.o.pat).mono ?_
  rintro e w5 ⟨at5,r5,hp5,hg5,hc5⟩
  have HM5:=Xj (HM4.o.call hp5 hg5)
  have HR5:=Xj (HR4.o.gr hg5 (by omega))
  have HT5:=Xj (HT4.o.gr hg5 (by omega))
  clear hp5 hg5
  obtain⟨t0,t1,t2,t3⟩:=HT5.o.cells
  (try dsimp only at t0 t1 t2 t3)
  obtain⟨y0,y1,y2,y3,y4,y5⟩:=HR5.o.cells
  obtain⟨g0,g1,g2,g3,g4,g5⟩:=HR5.o.froz
  have hlR:=HR5.o.lt
  have hlT:=HT5.o.lt
  have HRT:Xq (rest.tail.tail.length<rest.length/\rest.tail.length<rest.length):=Xj (by rw[HX0.o];simp<;>omega)
  rcases hc5 with⟨hk,rfl,rfl,rfl⟩|⟨hk,rfl,rfl,rfl⟩
  ·obtain⟨nm,hnm⟩:∃ x,tOf rest.tail=x:=⟨_,rfl⟩
   have HNM:=Xj hnm
   have HK:=Xj hk
   rw[hnm]
   clear hnm hk
   go_wp2_with fail
   have hY:=Zs (lv:=.pr) (rest:=rest) HM5.o HR5.o (show w.heap.size<=gR by have:=HGR.o;omega) (Nat.le_of_lt HRT.o.1) ⟨11,0,0,tn,nm⟩ none 0 0 true (.inl ⟨rfl,.nil,by have h:=Ps.pr_func HT.o HK.o;rw[HKT.o.2.1,HNM.o] at h;exact h,Xv.nil _ _,HRT.o.1⟩)
   obtain⟨wz,hwz⟩:∃ W,set6 w5 gR (.int .i64 11) (.int .i64 0) (.int .i64 0) (.int .i64 tn) (.string (st nm)) (.slice none 0 0)=W:=⟨_,rfl⟩
   have hZ:=hwz
   unfold set6 at hZ
   (try rw[hZ])
   obtain⟨hd,hep⟩:=hY wz hwz.symm
   obtain⟨d0,d1,d2,d3,d4,d5⟩:=hd.cells
   refine bodyPost_ret (v:=.tuple #[exv ⟨11,0,0,tn,nm⟩ (.slice none 0 0),.bool true]) (by simp[results,Tryz.results208,go_sem,d0,d1,d2,d3,d4,d5]) rfl ?_
   exact hep
  have HK:=Xj hk
  clear hk
  go_wp2_with fail
  have hY:=Zs (lv:=.pr) (rest:=rest) HM5.o HR5.o (show w.heap.size<=gR by have:=HGR.o;omega) (Nat.le_of_lt HRT.o.2) ⟨11,0,0,tn,[]⟩ none 0 0 false (.inr ⟨rfl,Ps.pr_func_bad HT.o HK.o⟩)
  obtain⟨wz,hwz⟩:∃ W,set6 w5 gR (.int .i64 11) (.int .i64 0) (.int .i64 0) (.int .i64 tn) (.string { data := #[] }) (.slice none 0 0)=W:=⟨_,rfl⟩
  have hZ:=hwz
  unfold set6 at hZ
  (try rw[hZ])
  obtain⟨hd,hep⟩:=hY wz hwz.symm
  obtain⟨d0,d1,d2,d3,d4,d5⟩:=hd.cells
  refine bodyPost_ret (v:=.tuple #[exv ⟨11,0,0,tn,[]⟩ (.slice none 0 0),.bool false]) (by simp[results,Tryz.results208,go_sem,d0,d1,d2,d3,d4,d5]) rfl ?_
  exact hep
 have HN38:=Xj hT
 rw[hT]
 clear hT t0 t1 t2 t3 y0 y1 y2 y3 y4 y5 g0 g1 g2 g3 g4 g5 hlR hlT
 go_wp2_with fail
 refine(Yd K at4 r4 [114,101,97,100] _ HM4.o.pat).mono ?_
 rintro e w5 ⟨at5,r5,rfl,hp5,hg5,hc5⟩
 have HM5:=Xj (HM4.o.call hp5 hg5)
 have HR5:=Xj (HR4.o.gr hg5 (by omega))
 have HT5:=Xj (HT4.o.gr hg5 (by omega))
 clear hp5 hg5
 rcases hc5 with⟨hT,rfl,rfl⟩|⟨hT,rfl,rfl⟩
 ·have HT:=Xj hT
  rw[hT]
  clear hT
  obtain⟨t0,t1,t2,t3⟩:=HT5.o.cells
  (try dsimp only at t0 t1 t2 t3)
  obtain⟨y0,y1,y2,y3,y4,y5⟩:=HR5.o.cells
  obtain⟨g0,g1,g2,g3,g4,g5⟩:=HR5.o.froz
  have hlR:=HR5.o.lt
  have hlT:=HT5.o.lt
  have HRT:Xq (r4.tail.length<r4.length):=Xj (by rw[HX0.o];simp<;>omega)
  go_wp2_with fail
  have hY:=Zs (lv:=.pr) (rest:=r4) HM5.o HR5.o (show w.heap.size<=gR by have:=HGR.o;omega) (Nat.le_of_lt HRT.o) ⟨12,0,0,tn,[]⟩ none 0 0 true (.inl ⟨rfl,.nil,by have h:=Ps.pr_read HT.o;rw[HKT.o.2.1] at h;exact h,Xv.nil _ _,HRT.o⟩)
  obtain⟨wz,hwz⟩:∃ W,set6 w5 gR (.int .i64 12) (.int .i64 0) (.int .i64 0) (.int .i64 tn) (.string { data := #[] }) (.slice none 0 0)=W:=⟨_,rfl⟩
  have hZ:=hwz
  unfold set6 at hZ
  (try rw[hZ])
  obtain⟨hd,hep⟩:=hY wz hwz.symm
  obtain⟨d0,d1,d2,d3,d4,d5⟩:=hd.cells
  refine bodyPost_ret (v:=.tuple #[exv ⟨12,0,0,tn,[]⟩ (.slice none 0 0),.bool true]) (by simp[results,Tryz.results208,go_sem,d0,d1,d2,d3,d4,d5]) rfl ?_
  exact hep
 have hxv:=Xj hT
 rw[hT]
 clear hT
 go_wp2_with fail
 refine(Yd K at5 r5 [40] _ HM5.o.pat).mono ?_
 rintro e w6 ⟨at6,r6,rfl,hp6,hg6,hc6⟩
 have HM6:=Xj (HM5.o.call hp6 hg6)
 have HR6:=Xj (HR5.o.gr hg6 (by omega))
 have HT6:=Xj (HT5.o.gr hg6 (by omega))
 clear hp6 hg6
 rcases hc6 with⟨hT,rfl,rfl⟩|⟨hT,rfl,rfl⟩
 ·have HT:=Xj hT
  rw[hT]
  have HRT:Xq (r5.tail.length<r5.length):=Xj (by rw[HX0.o];simp<;>omega)
  clear hT
  go_wp2_with fail
  refine(HE.o _ _ _ HM6.o.pat (by have:=HRT.o;omega)).mono ?_
  rintro e w7 ⟨h,a,n,c,ok,at7,r7,rfl,hp7,hI,hg7,hH⟩
  have hs7:=hg7.size
  have hws:=HM6.o.gr.size
  have hlRs:=HR6.o.lt
  have hlTs:=HT6.o.lt
  have HM8:=Xj ((HM6.o.call hp7 hg7).al (.cells (ecs h (.slice a n c)) 37))
  have HR8:=Xj ((HR6.o.gr hg7 (by omega)).al (.cells (ecs h (.slice a n c)) 37))
  have HT8:=Xj ((HT6.o.gr hg7 (by omega)).al (.cells (ecs h (.slice a n c)) 37))
  have HX8:=Xj (Lc.new w7 h (.slice a n c))
  have H5:Xq ((ok=true/\∃ ar,Ps .ex r5.tail (.ok (Xb h ar) r7)/\Xv (w7.alloc (.cells (ecs h (.slice a n c)) 37)) (TBk w gR w7.heap.size) ar (.slice a n c)/\r7.length<r5.tail.length)\/(ok=false/\Ps .ex r5.tail (.bad r7))):=Xj (by
   rcases hH.o with⟨e1,ar2,e2,e3,e4⟩|hr
   ·exact .inl ⟨e1,ar2,e2,Xy (Yu _ e3) (λ b hb _=>⟨by have:=hb.1;omega,by have:=hb.1;omega,hb.2⟩),e4⟩
   exact .inr hr)
  have HL7:=Xj hI
  clear hH hp7 hg7 hI
  go_upto_region 18 with fail
  obtain⟨w8,hw8⟩:∃ W,w7.alloc (.cells (ecs h (.slice a n c)) 37)=W:=⟨_,rfl⟩
  obtain⟨gx,hgx⟩:∃ x,w7.heap.size=x:=⟨_,rfl⟩
  (try rw[show w7.alloc (.cells #[.int .i64 h.k,.int .i64 h.op,.int .i64 h.v,.int .i64 h.ln,.string (st h.nm),.slice a n c] 37)=w8 from hw8])
  rw[hw8] at HM8 HR8 HT8 HX8 H5
  rw[hgx] at HX8 H5 hs7
  (try rw[hgx])
  clear hw8 hgx
  obtain⟨q0,q1,q2,q3,q4,q5⟩:=HX8.o.cells
  obtain⟨s0,s1,s2,s3⟩:=HT8.o.cells
  (try dsimp only at s0 s1 s2 s3)
  have hqd:=HX8.o.lt
  have hlT8:=HT8.o.lt
  have hngx:gx≠K.g:=by omega
  have hngt:gt≠K.g:=by omega
  have hzu:gR≠K.g:=by omega
  cases ok
  ·have HB:Xq (Ps .pr r5 (.bad r7)):=Xj (by
    rcases H5.o with⟨h1,_⟩|⟨_,h1⟩
    ·cases h1
    exact Ps.pr_par_bad HT.o h1)
   clear H5
   refine wp_region_held_drew (S:=(λ w'=>w'.cell? ⟨gx,0,none⟩=some (.int .i64 h.k)/\w'.cell? ⟨gx,1,none⟩=some (.int .i64 h.op)/\w'.cell? ⟨gx,2,none⟩=some (.int .i64 h.v)/\w'.cell? ⟨gx,3,none⟩=some (.int .i64 h.ln)/\w'.cell? ⟨gx,4,none⟩=some (.string (st h.nm))/\w'.cell? ⟨gx,5,none⟩=some (.slice a n c))) (by kernel_rfl) ⟨q0,q1,q2,q3,q4,q5⟩ (λ hJ=>?_)
   refine tkH 0 92 ?_
   refine tkH 1 93 ?_
   refine tkH 2 94 ?_
   refine tkU 3 95 ?_
   refine tkU 4 96 ?_
   refine tkH 5 97 ?_
   obtain⟨wd,hwd⟩:∃ W,w8.drew=W:=⟨_,rfl⟩
   have HM9:=Xj (HM8.o.be (Below.refl _ _).drew)
   have HR9:=Xj (HR8.o.be (Below.refl _ _).drew)
   rw[hwd] at hJ HM9 HR9 ⊢
   have hsd:w8.heap.size=wd.heap.size:=by rw[<- hwd];rfl
   clear hwd
   obtain⟨u0,u1,u2,u3,u4,u5⟩:=HR9.o.cells
   obtain⟨k0,k1,k2,k3,k4,k5⟩:=HR9.o.froz
   have hzb:=HR9.o.lt
   refine rdH 6 λ K0 hK=>?_
   go_simp
   refine goH hK ⟨Xw (by omega) hJ.1,Xw (by omega) hJ.2.1,Xw (by omega) hJ.2.2.1,Xw (by omega) hJ.2.2.2.1,Xw (by omega) hJ.2.2.2.2.1,Xw (by omega) hJ.2.2.2.2.2⟩ λ hJ=>?_
   clear hK K0
   refine tkH 7 3 ?_
   refine wpAnyH_done (by kernel_rfl) ?_ _
   refine Xz ?_
   clear u0 u1 u2 u3 u4 u5 k0 k1 k2 k3 k4 k5 hJ
   have hY:=Zs (lv:=.pr) (rest:=r5) HM9.o HR9.o (show w.heap.size<=gR by omega) (by have h1:=HL7.o;have h2:=HRT.o;omega) h a n c false (.inr ⟨rfl,HB.o⟩)
   obtain⟨wz,hwz⟩:∃ W,set6 wd gR (.int .i64 h.k) (.int .i64 h.op) (.int .i64 h.v) (.int .i64 h.ln) (.string (st h.nm)) (.slice a n c)=W:=⟨_,rfl⟩
   have hZ:=hwz
   unfold set6 at hZ
   (try rw[hZ])
   obtain⟨hd,hep⟩:=hY wz hwz.symm
   obtain⟨d0,d1,d2,d3,d4,d5⟩:=hd.cells
   clear hY
   go_wp2_with fail
   refine bodyPost_ret (v:=.tuple #[exv h (.slice a n c),.bool false]) (by simp[results,Tryz.results208,go_sem,d0,d1,d2,d3,d4,d5]) rfl ?_
   exact hep
  obtain⟨ar,hps,har,hlt⟩:∃ ar,Ps .ex r5.tail (.ok (Xb h ar) r7)/\Xv w8 (TBk w gR gx) ar (.slice a n c)/\r7.length<r5.tail.length:=by
   rcases H5.o with⟨_,h1⟩|⟨h1,_⟩
   ·exact h1
   cases h1
  have HPS:=Xj hps
  have HAR:=Xj har
  have HLT:=Xj hlt
  clear hps har hlt H5
  refine wp_region_held_drew (S:=(λ w'=>w'.cell? ⟨gx,0,none⟩=some (.int .i64 h.k)/\w'.cell? ⟨gx,1,none⟩=some (.int .i64 h.op)/\w'.cell? ⟨gx,2,none⟩=some (.int .i64 h.v)/\w'.cell? ⟨gx,3,none⟩=some (.int .i64 h.ln)/\w'.cell? ⟨gx,4,none⟩=some (.string (st h.nm))/\w'.cell? ⟨gx,5,none⟩=some (.slice a n c))) (by kernel_rfl) ⟨q0,q1,q2,q3,q4,q5⟩ (λ hJ=>?_)
  refine tkH 0 92 ?_
  refine tkH 1 93 ?_
  refine tkH 2 94 ?_
  refine tkH 3 95 ?_
  refine rdH 4 λ K0 hK=>?_
  go_simp
  refine(Yd K at7 r7 [41] _ (HM8.o.be (Below.refl _ _).drew).pat).mono ?_
  rintro e w9 ⟨at9,r9,rfl,hp9,hg9,hc9⟩
  have hjj:∀ p:Addr,p.block<w8.heap.size->p.block≠K.g->w9.cell? p=w8.drew.cell? p:=λ p hp hn=>hg9.cell_far p (by exact hp) (by simp;omega)
  refine goH hK ⟨(hjj ⟨gx,0,none⟩ (by show gx<_;omega) (by show gx≠K.g;omega)).trans hJ.1,(hjj ⟨gx,1,none⟩ (by show gx<_;omega) (by show gx≠K.g;omega)).trans hJ.2.1,(hjj ⟨gx,2,none⟩ (by show gx<_;omega) (by show gx≠K.g;omega)).trans hJ.2.2.1,(hjj ⟨gx,3,none⟩ (by show gx<_;omega) (by show gx≠K.g;omega)).trans hJ.2.2.2.1,(hjj ⟨gx,4,none⟩ (by show gx<_;omega) (by show gx≠K.g;omega)).trans hJ.2.2.2.2.1,(hjj ⟨gx,5,none⟩ (by show gx<_;omega) (by show gx≠K.g;omega)).trans hJ.2.2.2.2.2⟩ λ hJ=>?_
  clear hK K0
  have HM9:=Xj ((HM8.o.be (Below.refl _ _).drew).call hp9 hg9)
  have HR9:=Xj ((HR8.o.be (Below.refl _ _).drew).gr hg9 hzu)
  have HAR9:=Xj (Yl (w:=w8.drew) (HAR.o.keep (Q:=TBk w gR gx) (λ b hb hlt=>⟨rfl,hb⟩) (Nat.le_refl _)) hg9 (λ b hb=>by have:=hb.1;omega))
  clear hp9 hjj
  refine tkH 5 97 ?_
  obtain⟨u0,u1,u2,u3,u4,u5⟩:=HR9.o.cells
  obtain⟨k0,k1,k2,k3,k4,k5⟩:=HR9.o.froz
  have hzb:=HR9.o.lt
  refine rdH 6 λ K0 hK=>?_
  go_simp
  refine goH hK ⟨Xw (by omega) hJ.1,Xw (by omega) hJ.2.1,Xw (by omega) hJ.2.2.1,Xw (by omega) hJ.2.2.2.1,Xw (by omega) hJ.2.2.2.2.1,Xw (by omega) hJ.2.2.2.2.2⟩ λ hJ=>?_
  clear hK K0
  refine tkH 7 3 ?_
  refine wpAnyH_done (by kernel_rfl) ?_ _
  refine Xz ?_
  rcases hc9 with⟨h41,rfl,rfl⟩|⟨h41,rfl,rfl⟩
  ·(try rw[h41])
   clear u0 u1 u2 u3 u4 u5 k0 k1 k2 k3 k4 k5 hJ
   have hY:=Zs (lv:=.pr) (rest:=r5) HM9.o HR9.o (show w.heap.size<=gR by omega) (by have h1:=HLT.o;have h2:=HRT.o;simp only[List.length_tail];omega) h a n c true (.inl ⟨rfl,ar,Ps.pr_par HT.o HPS.o h41,Xy HAR9.o (λ b hb _=>⟨hb.1,hb.2.1⟩),by have h1:=HLT.o;have h2:=HRT.o;simp only[List.length_tail];omega⟩)
   obtain⟨wz,hwz⟩:∃ W,set6 w9 gR (.int .i64 h.k) (.int .i64 h.op) (.int .i64 h.v) (.int .i64 h.ln) (.string (st h.nm)) (.slice a n c)=W:=⟨_,rfl⟩
   have hZ:=hwz
   unfold set6 at hZ
   (try rw[hZ])
   obtain⟨hd,hep⟩:=hY wz hwz.symm
   obtain⟨d0,d1,d2,d3,d4,d5⟩:=hd.cells
   clear hY
   go_wp2_with fail
   refine bodyPost_ret (v:=.tuple #[exv h (.slice a n c),.bool true]) (by simp[results,Tryz.results208,go_sem,d0,d1,d2,d3,d4,d5]) rfl ?_
   exact hep
  (try rw[h41])
  clear u0 u1 u2 u3 u4 u5 k0 k1 k2 k3 k4 k5 hJ
  have hY:=Zs (lv:=.pr) (rest:=r5) HM9.o HR9.o (show w.heap.size<=gR by omega) (by have h1:=HL7.o;have h2:=HRT.o;omega) h a n c false (.inr ⟨rfl,Ps.pr_par_bad2 HT.o HPS.o h41⟩)
  obtain⟨wz,hwz⟩:∃ W,set6 w9 gR (.int .i64 h.k) (.int .i64 h.op) (.int .i64 h.v) (.int .i64 h.ln) (.string (st h.nm)) (.slice a n c)=W:=⟨_,rfl⟩
  have hZ:=hwz
  unfold set6 at hZ
  (try rw[hZ])
  obtain⟨hd,hep⟩:=hY wz hwz.symm
  obtain⟨d0,d1,d2,d3,d4,d5⟩:=hd.cells
  clear hY
  go_wp2_with fail
  refine bodyPost_ret (v:=.tuple #[exv h (.slice a n c),.bool false]) (by simp[results,Tryz.results208,go_sem,d0,d1,d2,d3,d4,d5]) rfl ?_
  exact hep
 have HN40:=Xj hT
 rw[hT]
 clear hT
 obtain⟨t0,t1,t2,t3⟩:=HT6.o.cells
 (try dsimp only at t0 t1 t2 t3)
 obtain⟨y0,y1,y2,y3,y4,y5⟩:=HR6.o.cells
 obtain⟨g0,g1,g2,g3,g4,g5⟩:=HR6.o.froz
 have hlR:=HR6.o.lt
 have hlT:=HT6.o.lt
 go_wp2_with fail
 have hY:=Zs (lv:=.pr) (rest:=r6) HM6.o HR6.o (show w.heap.size<=gR by have:=HGR.o;omega) (Nat.le_refl _) ⟨0,0,0,0,[]⟩ none 0 0 false (.inr ⟨rfl,Ps.pr_bad (by have:=HKT.o.1;have:=HN12.o.1;omega) (by have:=HKT.o.1;have:=HN12.o.2;omega) HN38.o hxv.o HN40.o⟩)
 obtain⟨wz,hwz⟩:∃ W,set6 w6 gR (.int .i64 0) (.int .i64 0) (.int .i64 0) (.int .i64 0) (.string { data := #[] }) (.slice none 0 0)=W:=⟨_,rfl⟩
 have hZ:=hwz
 unfold set6 at hZ
 (try rw[hZ])
 obtain⟨hd,hep⟩:=hY wz hwz.symm
 obtain⟨d0,d1,d2,d3,d4,d5⟩:=hd.cells
 refine bodyPost_ret (v:=.tuple #[exv ⟨0,0,0,0,[]⟩ (.slice none 0 0),.bool false]) (by simp[results,Tryz.results208,go_sem,d0,d1,d2,d3,d4,d5]) rfl ?_
 exact hep
end
end Go.Proofs.YtldgghnjminhiaaGreatDoor
