/-
  WORDS, PLAIN LAWS and WALKS (Mtk Mrp Mdp), pressed. (Filled in from templates of this repo.)
-/
import Derived.Lib.Strings
import Derived.WalkSpells
import Derived.OrdersHeld
import Derived.Deep.RegionLaw
import Derived.BigQuiet
import Derived.Lib.AppendIntMem
import Derived.Lib.AtoiErrMem
import Derived.Laws.AppendOwn
import Derived.Lib.AppendStr
import Derived.Lib.BufferRead
import Derived.Laws.MakeOwn
import Derived.Test.YtldgghnjminhiaaGreatDoorG0
import Derived.Test.YtldgghnjminhiaaGreatDoorG1
import Derived.Lib.AtoiAllCases
import Derived.Lib.ItoaMem
namespace Go.Proofs.YtldgghnjminhiaaGreatDoor
open Go Go.ChangeAt Go.ChangeShapes Go.RowKit Go.WideShapes
set_option linter.unusedVariables false
set_option linter.unusedSimpArgs false
set_option maxRecDepth 100000
set_option maxHeartbeats 16000000
section
abbrev Bt:=List UInt8
def lt8 (b:UInt8):Bool:=decide (97<=b.toNat/\b.toNat<=122)||decide (65<=b.toNat/\b.toNat<=90)
def dg8 (b:UInt8):Bool:=decide (48<=b.toNat/\b.toNat<=57)
def in8 (b:UInt8):Bool:=lt8 b||dg8 b||decide (b.toNat=95)
def wordsL:List Bt:=[[102,117,110,99],[103,108,111,98,97,108],[118,97,114],[105,102],[101,108,115,101],[119,104,105,108,101],[114,101,116,117,114,110],[112,114,105,110,116],[99,97,108,108],[114,101,97,100]]
def signsL:List Bt:=[[40],[41],[123],[125],[91],[93],[44],[59],[61],[43],[45],[42],[47],[37],[60],[60,61],[61,61],[33,61],[38,38],[124,124],[33],[38]]
def isW (l:Bt):Bool:=wordsL.contains l
def isS (l:Bt):Bool:=signsL.contains l
abbrev st (l:Bt):ByteArray:=⟨l.toArray⟩
theorem Ed (s:ByteArray):st s.data.toList=s:=by cases s;rfl
theorem st_len (s:ByteArray):s.data.toList.length=s.size:=rfl
theorem Qr (s:ByteArray) (k:Nat) (h:k<s.size):s.data.toList[k]?=some s[k]:=by
 have h2:k<s.data.toList.length:=h
 rw[List.getElem?_eq_getElem h2]
 rfl
theorem Vy (s:ByteArray) (i j:Nat):s.extract i j=st ((s.data.toList.take j).drop i):=by
 have h:(s.extract i j).data.toList=(s.data.toList.take j).drop i:=by
  rw[ByteArray.data_extract,Array.toList_extract,List.extract_eq_take_drop,List.drop_take]
 rw[<- h,Ed]
def run (p:UInt8->Bool) (l:Bt):Bt:=l.takeWhile p
theorem Vb (p:UInt8->Bool) (l:Bt):(run p l).length<=l.length:=by
 induction l with
 | nil=>exact Nat.le_refl _
 | cons x l ih =>
  unfold run at ih ⊢
  rw[List.takeWhile_cons]
  split
  ·simp;exact ih
  simp
theorem Dc {p:UInt8->Bool} {l:Bt} {k:Nat} (h:∀ j,j<k->∃ b,l[j]?=some b/\p b=true):∀ b,l[k]?=some b->p b=false->run p l=l.take k:=by
 induction k generalizing l with
 | zero =>
  intro b hb hp
  cases l with
  | nil=>rfl
  | cons x l=>simp at hb;subst hb;simp[run,hp]
 | succ k ih =>
  intro b hb hp
  cases l with
  | nil=>simp at hb
  | cons x l =>
   obtain⟨y,hy,hpy⟩:=h 0 (by omega)
   simp at hy
   subst hy
   have:=ih (l:=l) (λ j hj=>by have:=h (j+1) (by omega);simpa using this) b (by simpa using hb) hp
   unfold run at this ⊢
   rw[List.takeWhile_cons,hpy,List.take_succ_cons,if_pos rfl,this]
theorem El {p:UInt8->Bool} {l:Bt} (h:∀ j,j<l.length->∃ b,l[j]?=some b/\p b=true):run p l=l:=by
 induction l with
 | nil=>rfl
 | cons x l ih =>
  obtain⟨y,hy,hpy⟩:=h 0 (by simp)
  simp at hy
  subst hy
  have:=ih (λ j hj=>by have:=h (j+1) (by simp;omega);simpa using this)
  unfold run at this ⊢
  rw[List.takeWhile_cons,hpy,if_pos rfl,this]
theorem Ik (n:Nat) (w:World):Calls Tryz.prog 139 #[.int .u8 (n:Int)] w λ e w'=>e=.returned (.bool (decide (97<=n/\n<=122)||decide (65<=n/\n<=90)))/\w'=w:=by
 by_cases h1:97<=n
 ·by_cases h2:n<=122
  ·have d1:decide ((97:Int)<=(n:Int))=true:=by rw[decide_eq_true_iff];omega
   have d2:decide ((n:Int)<=122)=true:=by rw[decide_eq_true_iff];omega
   have HE:Xq ((decide (97<=n/\n<=122)||decide (65<=n/\n<=90))=true):=Xj (by simp[h1,h2])
   clear h1 h2
   go_enter Tryz.func139,Tryz.ntmps139
   go_wp2
   go_ret
   exact⟨by rw[HE.o];rfl,rfl⟩
  have d1:decide ((97:Int)<=(n:Int))=true:=by rw[decide_eq_true_iff];omega
  have d2:decide ((n:Int)<=122)=false:=by rw[decide_eq_false_iff_not];omega
  have d3:decide ((65:Int)<=(n:Int))=true:=by rw[decide_eq_true_iff];omega
  have d4:decide ((n:Int)<=90)=false:=by rw[decide_eq_false_iff_not];omega
  have HE:Xq ((decide (97<=n/\n<=122)||decide (65<=n/\n<=90))=false):=Xj (by simp;omega)
  clear h1 h2
  go_enter Tryz.func139,Tryz.ntmps139
  go_wp2
  go_ret
  exact⟨by rw[HE.o];rfl,rfl⟩
 have d1:decide ((97:Int)<=(n:Int))=false:=by rw[decide_eq_false_iff_not];omega
 by_cases h3:65<=n
 ·have d3:decide ((65:Int)<=(n:Int))=true:=by rw[decide_eq_true_iff];omega
  have HE:Xq ((decide (97<=n/\n<=122)||decide (65<=n/\n<=90))=decide ((n:Int)<=90)):=Xj (by
   have:decide ((n:Int)<=90)=decide (n<=90):=by rw[decide_eq_decide];omega
   rw[this];simp[h1,h3])
  clear h1 h3
  go_enter Tryz.func139,Tryz.ntmps139
  go_wp2
  go_ret
  exact⟨by rw[HE.o];simp,rfl⟩
 have d3:decide ((65:Int)<=(n:Int))=false:=by rw[decide_eq_false_iff_not];omega
 have HE:Xq ((decide (97<=n/\n<=122)||decide (65<=n/\n<=90))=false):=Xj (by simp[h1,h3])
 clear h1 h3
 go_enter Tryz.func139,Tryz.ntmps139
 go_wp2
 go_ret
 exact⟨by rw[HE.o];rfl,rfl⟩
theorem Jc (b:UInt8) (w:World):Calls Tryz.prog 139 #[.int .u8 (b.toNat:Int)] w λ e w'=>e=.returned (.bool (lt8 b))/\w'=w:=Ik b.toNat w
theorem xqt (n:Nat) (w:World):Calls Tryz.prog 142 #[.int .u8 (n:Int)] w λ e w'=>e=.returned (.bool (decide (48<=n/\n<=57)))/\w'=w:=by
 by_cases h1:48<=n
 ·have d1:decide ((48:Int)<=(n:Int))=true:=by rw[decide_eq_true_iff];omega
  have HE:Xq (decide (48<=n/\n<=57)=decide ((n:Int)<=57)):=Xj (by rw[decide_eq_decide];omega)
  clear h1
  go_enter Tryz.func142,Tryz.ntmps142
  go_wp2
  go_ret
  exact⟨by rw[HE.o];simp,rfl⟩
 have d1:decide ((48:Int)<=(n:Int))=false:=by rw[decide_eq_false_iff_not];omega
 have HE:Xq (decide (48<=n/\n<=57)=false):=Xj (by simp[h1])
 clear h1
 go_enter Tryz.func142,Tryz.ntmps142
 go_wp2
 go_ret
 exact⟨by rw[HE.o];rfl,rfl⟩
theorem Uk (b:UInt8) (w:World):Calls Tryz.prog 142 #[.int .u8 (b.toNat:Int)] w λ e w'=>e=.returned (.bool (dg8 b))/\w'=w:=xqt b.toNat w
theorem Ad (b:UInt8) (w:World):Calls Tryz.prog 140 #[.int .u8 (b.toNat:Int)] w λ e w'=>e=.returned (.bool (in8 b))/\w'=w:=by
 have HL:=Xj (Jc b)
 have HD:=Xj (Uk b)
 cases h1:lt8 b
 ·cases h2:dg8 b
  ·have HE:Xq (in8 b=decide (b.toNat=95)):=Xj (by unfold in8;rw[h1,h2];rfl)
   go_enter Tryz.func140,Tryz.ntmps140
   go_wp2_with fail
   refine(HL.o _).mono ?_
   rintro e w1 ⟨rfl,rfl⟩
   rw[h1]
   go_wp2_with fail
   refine(HD.o _).mono ?_
   rintro e w1 ⟨rfl,rfl⟩
   rw[h2]
   go_wp2_with fail
   go_ret
   refine⟨?_,rfl⟩
   rw[HE.o]
   have:((b.toNat:Int)==95)=decide (b.toNat=95):=by rw[Bool.eq_iff_iff];simp;omega
   simp[this]
  have HE:Xq (in8 b=true):=Xj (by unfold in8;rw[h1,h2];rfl)
  go_enter Tryz.func140,Tryz.ntmps140
  go_wp2_with fail
  refine(HL.o _).mono ?_
  rintro e w1 ⟨rfl,rfl⟩
  rw[h1]
  go_wp2_with fail
  refine(HD.o _).mono ?_
  rintro e w1 ⟨rfl,rfl⟩
  rw[h2]
  go_wp2_with fail
  go_ret
  exact⟨by rw[HE.o];rfl,rfl⟩
 have HE:Xq (in8 b=true):=Xj (by unfold in8;rw[h1];rfl)
 go_enter Tryz.func140,Tryz.ntmps140
 go_wp2_with fail
 refine(HL.o _).mono ?_
 rintro e w1 ⟨rfl,rfl⟩
 rw[h1]
 go_wp2_with fail
 go_ret
 exact⟨by rw[HE.o];rfl,rfl⟩
def nl8 (b:UInt8):Bool := !decide (b.toNat=10)
theorem Ix (b:UInt8) (w:World):Calls Tryz.prog 95 #[.int .u8 (b.toNat:Int)] w λ e w'=>e=.returned (.bool (nl8 b))/\w'=w:=by
 have HE:Xq (nl8 b=((b.toNat:Int) != 10)):=Xj (by unfold nl8;rw[Bool.eq_iff_iff];simp;omega)
 go_enter Tryz.func95,Tryz.ntmps95
 go_wp2
 go_ret
 exact⟨by rw[HE.o];rfl,rfl⟩
theorem Av (s:ByteArray) (hs:s.size<=9223372036854775806) (w:World):Calls Tryz.prog 94 #[.string s,.func (.func 140) #[] #[]] w λ e w'=>e=.returned (.string (st (run in8 s.data.toList)))/\w'=w:=by
 go_enter Tryz.func94,Tryz.ntmps94
 go_wp2_with fail
 go_loopw [8] (λ v8 wr=>∃ k:Nat,k<=s.size/\v8=.int .i64 k/\wr=w/\Xq (∀ j,j<k->∃ b,s.data.toList[j]?=some b/\in8 b=true)) (λ v _=>s.size-(intOf v).toNat)
 case atStart=>exact⟨0,by omega,rfl,rfl,Xj (λ j hj=>absurd hj (by omega))⟩
 obtain⟨k,hk,rfl,rfl,HA⟩:=hrel
 by_cases hlt:k<s.size
 ·have HG:=Xj (Qr s k hlt)
  go_wp2_with fail
  refine(Ad _ _).mono ?_
  rintro e w1 ⟨rfl,rfl⟩
  obtain⟨b,hb⟩:∃ b,s[k]=b:=⟨_,rfl⟩
  have HB:=Xj hb
  rw[hb] at HG ⊢
  clear hb
  cases hz:in8 b
  ·have HZ:=Xj hz
   have HR:=Xj (Dc HA.o b HG.o hz)
   clear hz
   go_wp2_with fail
   go_ret
   exact⟨by rw[HR.o,Vy];simp,rfl⟩
  have HN:Xq (∀ j,j<k+1->∃ b,s.data.toList[j]?=some b/\in8 b=true):=Xj (λ j hj=>by
   by_cases e:j=k
   ·subst e;exact⟨b,HG.o,hz⟩
   exact HA.o j (by omega))
  clear hz
  go_wp2_with fail
  go_roundw
  case rel=>exact⟨k+1,by omega,by go_num,by first|rfl|trivial,HN⟩
  simp[intOf];omega
 obtain rfl:k=s.size:=by omega
 have HR:=Xj (El (p:=in8) (l:=s.data.toList) HA.o)
 go_wp2_with fail
 go_ret
 exact⟨by rw[HR.o,Ed];rfl,rfl⟩
theorem Aw (s:ByteArray) (hs:s.size<=9223372036854775806) (w:World):Calls Tryz.prog 94 #[.string s,.func (.func 142) #[] #[]] w λ e w'=>e=.returned (.string (st (run dg8 s.data.toList)))/\w'=w:=by
 go_enter Tryz.func94,Tryz.ntmps94
 go_wp2_with fail
 go_loopw [8] (λ v8 wr=>∃ k:Nat,k<=s.size/\v8=.int .i64 k/\wr=w/\Xq (∀ j,j<k->∃ b,s.data.toList[j]?=some b/\dg8 b=true)) (λ v _=>s.size-(intOf v).toNat)
 case atStart=>exact⟨0,by omega,rfl,rfl,Xj (λ j hj=>absurd hj (by omega))⟩
 obtain⟨k,hk,rfl,rfl,HA⟩:=hrel
 by_cases hlt:k<s.size
 ·have HG:=Xj (Qr s k hlt)
  go_wp2_with fail
  refine(Uk _ _).mono ?_
  rintro e w1 ⟨rfl,rfl⟩
  obtain⟨b,hb⟩:∃ b,s[k]=b:=⟨_,rfl⟩
  have HB:=Xj hb
  rw[hb] at HG ⊢
  clear hb
  cases hz:dg8 b
  ·have HZ:=Xj hz
   have HR:=Xj (Dc HA.o b HG.o hz)
   clear hz
   go_wp2_with fail
   go_ret
   exact⟨by rw[HR.o,Vy];simp,rfl⟩
  have HN:Xq (∀ j,j<k+1->∃ b,s.data.toList[j]?=some b/\dg8 b=true):=Xj (λ j hj=>by
   by_cases e:j=k
   ·subst e;exact⟨b,HG.o,hz⟩
   exact HA.o j (by omega))
  clear hz
  go_wp2_with fail
  go_roundw
  case rel=>exact⟨k+1,by omega,by go_num,by first|rfl|trivial,HN⟩
  simp[intOf];omega
 obtain rfl:k=s.size:=by omega
 have HR:=Xj (El (p:=dg8) (l:=s.data.toList) HA.o)
 go_wp2_with fail
 go_ret
 exact⟨by rw[HR.o,Ed];rfl,rfl⟩
theorem Fk (s:ByteArray) (hs:s.size<=9223372036854775806) (w:World):Calls Tryz.prog 94 #[.string s,.func (.func 95) #[] #[]] w λ e w'=>e=.returned (.string (st (run nl8 s.data.toList)))/\w'=w:=by
 go_enter Tryz.func94,Tryz.ntmps94
 go_wp2_with fail
 go_loopw [8] (λ v8 wr=>∃ k:Nat,k<=s.size/\v8=.int .i64 k/\wr=w/\Xq (∀ j,j<k->∃ b,s.data.toList[j]?=some b/\nl8 b=true)) (λ v _=>s.size-(intOf v).toNat)
 case atStart=>exact⟨0,by omega,rfl,rfl,Xj (λ j hj=>absurd hj (by omega))⟩
 obtain⟨k,hk,rfl,rfl,HA⟩:=hrel
 by_cases hlt:k<s.size
 ·have HG:=Xj (Qr s k hlt)
  go_wp2_with fail
  refine(Ix _ _).mono ?_
  rintro e w1 ⟨rfl,rfl⟩
  obtain⟨b,hb⟩:∃ b,s[k]=b:=⟨_,rfl⟩
  have HB:=Xj hb
  rw[hb] at HG ⊢
  clear hb
  cases hz:nl8 b
  ·have HZ:=Xj hz
   have HR:=Xj (Dc HA.o b HG.o hz)
   clear hz
   go_wp2_with fail
   go_ret
   exact⟨by rw[HR.o,Vy];simp,rfl⟩
  have HN:Xq (∀ j,j<k+1->∃ b,s.data.toList[j]?=some b/\nl8 b=true):=Xj (λ j hj=>by
   by_cases e:j=k
   ·subst e;exact⟨b,HG.o,hz⟩
   exact HA.o j (by omega))
  clear hz
  go_wp2_with fail
  go_roundw
  case rel=>exact⟨k+1,by omega,by go_num,by first|rfl|trivial,HN⟩
  simp[intOf];omega
 obtain rfl:k=s.size:=by omega
 have HR:=Xj (El (p:=nl8) (l:=s.data.toList) HA.o)
 go_wp2_with fail
 go_ret
 exact⟨by rw[HR.o,Ed];rfl,rfl⟩
theorem toList_bytes (s:ByteArray):s.toList=s.data.toList:=ByteArray.toList_eq s
theorem Ow (s:ByteArray) (w:World):Calls Tryz.prog 141 #[.string s] w λ e w'=>e=.returned (.bool (isW s.data.toList))/\w'=w:=by
 rw[<- toList_bytes]
 go_enter Tryz.func141,Tryz.ntmps141
 go_wp2
 all_goals first
  | (exfalso;simp_all;done)
  | (go_ret;refine⟨?_,rfl⟩;simp_all[isW,wordsL])
theorem Oy (s:ByteArray) (w:World):Calls Tryz.prog 144 #[.string s] w λ e w'=>e=.returned (.bool (isS s.data.toList))/\w'=w:=by
 rw[<- toList_bytes]
 go_enter Tryz.func144,Tryz.ntmps144
 go_wp2
 all_goals first
  | (exfalso;simp_all;done)
  | (go_ret;refine⟨?_,rfl⟩;simp_all[isS,signsL])
theorem xzq (l:Bt) (w:World):Calls Tryz.prog 141 #[.string (st l)] w λ e w'=>e=.returned (.bool (isW l))/\w'=w:=by
 have:=Ow (st l) w
 simpa using this
theorem Er (l:Bt) (w:World):Calls Tryz.prog 144 #[.string (st l)] w λ e w'=>e=.returned (.bool (isS l))/\w'=w:=by
 have:=Oy (st l) w
 simpa using this
section
variable {P:Program} {ops:Array Oper} {Q:Exit->Act->World->Prop} {md:Region.Mode} {S:World->Prop}
theorem Xh {i:Nat} {oi:Oper} {d:Option Tmp} {v:Value} {fuel:Nat} {listed:Array Bool} {a:Act} {w:World} (hi:ops[i]?=some oi) (hd:oi.dst=d)
  (hs:Region.noSelect ops=true) (hf:Region.free md ops listed i=true) (hr:(Region.ready md ops listed).contains i=true)
  (hQ:∀ c a w,Q (.panic c) (a.put d v) w->Q (.panic c) a w) (hy:YieldsIf P ops S oi v a) (hS:S w)
  (h:wpAnyH P md ops Q S fuel (listed.setIfInBounds i true) (a.put d v) w):wpAnyH P md ops Q S (fuel+1) listed a w:=by
 subst hd;exact wpAnyH_take hi hs hf hr hQ hy hS h
theorem tkH (i d:Nat) {oi:Oper} {v:Value} {fuel:Nat} {listed:Array Bool} {a a2:Act} {w:World} (h:wpAnyH P md ops Q S fuel (listed.setIfInBounds i true) a2 w)
  (hi:ops[i]?=some oi:=by rfl) (hd:oi.dst=some d:=by kernel_rfl) (hs:Region.noSelect ops=true:=by kernel_rfl) (hf:Region.free md ops listed i=true:=by kernel_rfl) (hr:(Region.ready md ops listed).contains i=true:=by kernel_rfl)
  (hQ:∀ c a w,Q (.panic c) (a.put (some d) v) w->Q (.panic c) a w:=by exact λ _ _ _ h=>h) (hw:Region.wanted oi (yielded ops a.tmps)=true:=by kernel_rfl)
  (hy:∀ w,S w->(execOp a.eval oi).run P w=.ok (.value v) w:=by (intro w hSw;(try dsimp only at hSw);go_simp;try with_reducible rfl)) (hS:S w:=by assumption) (ha:a.put (some d) v=a2:=by (first|(simp only[Act.put,List.setIfInBounds_toArray,List.set_cons_zero,List.set_cons_succ];done)|(simp only[Act.put,List.setIfInBounds_toArray,List.set_cons_zero,List.set_cons_succ];rfl)|rfl)):wpAnyH P md ops Q S (fuel+1) listed a w:=by
 subst ha;exact Xh hi hd hs hf hr hQ (Or.inl ⟨hw,hy⟩) hS h
theorem tkU (i d:Nat) {oi:Oper} {fuel:Nat} {listed:Array Bool} {a a2:Act} {w:World} (h:wpAnyH P md ops Q S fuel (listed.setIfInBounds i true) a2 w)
  (hi:ops[i]?=some oi:=by rfl) (hd:oi.dst=some d:=by kernel_rfl) (hs:Region.noSelect ops=true:=by kernel_rfl) (hf:Region.free md ops listed i=true:=by kernel_rfl) (hr:(Region.ready md ops listed).contains i=true:=by kernel_rfl)
  (hQ:∀ c a w,Q (.panic c) (a.put (some d) undef) w->Q (.panic c) a w:=by exact λ _ _ _ h=>h) (hw:Region.wanted oi (yielded ops a.tmps)=false:=by kernel_rfl) (hS:S w:=by assumption) (ha:a.put (some d) undef=a2:=by (first|(simp only[Act.put,List.setIfInBounds_toArray,List.set_cons_zero,List.set_cons_succ];done)|(simp only[Act.put,List.setIfInBounds_toArray,List.set_cons_zero,List.set_cons_succ];rfl)|rfl)):wpAnyH P md ops Q S (fuel+1) listed a w:=by
 subst ha;exact Xh hi hd hs hf hr hQ (Or.inr ⟨hw,rfl⟩) hS h
theorem rdH (i:Nat) {o:Oper} {fuel:Nat} {listed:Array Bool} {a:Act} {w:World}
  (h:∀ K':Act->World->Prop,Shut (∀ a w,S w->(S w->wpAnyH P md ops Q S fuel (listed.setIfInBounds i true) a w)->K' a w)->if Region.wanted o (yielded ops a.tmps)=true then Oper.wp P o a w K' Q else K' (a.put o.dst undef) w)
  (hr:Region.ready md ops listed=[i]:=by kernel_rfl) (ho:ops[i]?=some o:=by rfl):wpAnyH P md ops Q S (fuel+1) listed a w:=wpAnyH_ready hr (by simp) (AllReadyH.cons ho h AllReadyH.nil)
theorem goH {fuel:Nat} {listed:Array Bool} {a a2:Act} {w:World} {K:Act->World->Prop} (hK:Shut (∀ a w,S w->(S w->wpAnyH P md ops Q S fuel listed a w)->K a w)) (hs:S w) (h:S w->wpAnyH P md ops Q S fuel listed a2 w) (ha:a=a2:=by (first|(simp only[Act.put,List.setIfInBounds_toArray,List.set_cons_zero,List.set_cons_succ];done)|(simp only[Act.put,List.setIfInBounds_toArray,List.set_cons_zero,List.set_cons_succ];rfl)|rfl)):K a w:=by
 subst ha;exact hK.out _ _ hs h
end
theorem Xm {w w':World} (h:Below w.heap.size w w') (r:Option Nat):w.grownBy w' r:=⟨h.os,h.tape,h.output,h.size,λ k hk _=>h.block k hk⟩
theorem Xv {w:World} {k:Nat} {o:Obj} (h:w.heap[k]?=some o):k<w.heap.size:=(Array.getElem?_eq_some_iff.1 h).1
theorem Ty (w:World) (cs:Array Value) (t:TypeId) {b o:Nat} {v:Value} (hb:b=w.heap.size) (hv:cs[o]?=some v):(w.alloc (.cells cs t)).cell? ⟨b,o,none⟩=some v:=by
 subst hb;rw[cell_of_row _ _ o _ _ _ (heap_alloc_new w _)];exact hv
theorem Xc {w:World} (ob:Obj) {b o:Nat} {v:Value} (h:w.cell? ⟨b,o,none⟩=some v):(w.alloc ob).cell? ⟨b,o,none⟩=some v :=
 (((Below.refl w.heap.size w).alloc (Nat.le_refl _) ob).cell (p:=⟨b,o,none⟩) (block_lt_of_cell h)).trans h
theorem Kc {w w':World} {base e k n:Nat} {v:Value} {l:List Value} (h:w.ownsRow base e k v n l) (hb:Below w.heap.size w w'):w'.ownsRow base e k v n l :=
 h.kept (Xm hb none) (by cases hq:v.ownBlock with|none=>exact .inl rfl|some k=>exact .inr (by simp))
theorem Yn {w:World} {b b' o o':Nat} (v:Value) {u:Value} (hne:b≠b') (h:w.cell? ⟨b',o',none⟩=some u):(w.setCell ⟨b,o,none⟩ v).cell? ⟨b',o',none⟩=some u :=
 (World.cell?_of_block (a:=⟨b',o',none⟩) (heap_setCell_other w ⟨b,o,none⟩ b' v (λ e=>hne e.symm))).trans h
abbrev set4 (w:World) (b:Nat) (v0 v1 v2 v3:Value):World:=(((w.setCell ⟨b,0,none⟩ v0).setCell ⟨b,1,none⟩ v1).setCell ⟨b,2,none⟩ v2).setCell ⟨b,3,none⟩ v3
theorem Xs {w:World} {b b' o':Nat} {v0 v1 v2 v3 u:Value} (hne:b≠b') (h:w.cell? ⟨b',o',none⟩=some u):(set4 w b v0 v1 v2 v3).cell? ⟨b',o',none⟩=some u :=
 Yn _ hne (Yn _ hne (Yn _ hne (Yn _ hne h)))
theorem Yt {w:World} {b:Nat} {u0 u1 u2 u3 v0 v1 v2 v3:Value} {t:TypeId} (h:w.heap[b]?=some (.cells #[u0,u1,u2,u3] t (0,0))):(set4 w b v0 v1 v2 v3).heap[b]?=some (.cells #[v0,v1,v2,v3] t (0,0)) :=
 heap_setCell_same _ b 3 _ _ v3 (heap_setCell_same _ b 2 _ _ v2 (heap_setCell_same _ b 1 _ _ v1 (heap_setCell_same _ b 0 _ _ v0 h)))
theorem Zw {B:Nat} {w0 w:World} {b:Nat} {v0 v1 v2 v3:Value} (h:Below B w0 w) (hb:B<=b):Below B w0 (set4 w b v0 v1 v2 v3) :=
 (((h.setCell (p:=⟨b,0,none⟩) hb v0).setCell (p:=⟨b,1,none⟩) hb v1).setCell (p:=⟨b,2,none⟩) hb v2).setCell (p:=⟨b,3,none⟩) hb v3
structure Lad (w:World):Prop where
 range:∃ (tp:TypeId) (p:Value),w.var? Tryz.prog "strconv.ErrRange" = some #[.iface tp p]
 syn:∃ (tp:TypeId) (p:Value),w.var? Tryz.prog "strconv.ErrSyntax" = some #[.iface tp p]
 tab:Lib.TabIs Tryz.prog w "internal/strconv.uint64pow10" .u64 Lib.pow10Tab
theorem Wn:Tryz.prog.globalNamed "strconv.ErrRange" = some 3:=by kernel_rfl
theorem Mb:Tryz.prog.globalNamed "strconv.ErrSyntax" = some 2:=by kernel_rfl
theorem Mu:Tryz.prog.globalNamed "internal/strconv.uint64pow10" = some 0:=by kernel_rfl
theorem Wt {P:Program} {w:World} {n:String} {g:Nat} {cs:Array Value} (hg:P.globalNamed n=some g) (h:w.var? P n=some cs):g<w.heap.size:=by
 unfold World.var? at h
 rw[hg] at h
 simp only[Option.bind_some] at h
 split at h
 ·rename_i hh
  exact(Array.getElem?_eq_some_iff.1 hh).1
 cases h
theorem Lad.below {w w':World} (h:Lad w) (hb:Below w.heap.size w w'):Lad w':=by
 obtain⟨⟨t1,p1,h1⟩,⟨t2,p2,h2⟩,h3⟩:=h
 exact⟨⟨t1,p1,var?_below hb Wn (Wt Wn h1) h1⟩,⟨t2,p2,var?_below hb Mb (Wt Mb h2) h2⟩,var?_below hb Mu (Wt Mu h3) h3⟩
def nxI (l:Bt):Int×Int×Bt×Bool :=
 match l with
 | []=>(4,0,[],false)
 | b::r =>
  if lt8 b then (if isW (run in8 l) then 3 else 1,0,run in8 l,decide ((run in8 l).length<=32))
  else if dg8 b then
   match Lib.atoiAll (run dg8 l) with
   | .ok v=>(2,v,run dg8 l,(Lib.itoa v==run dg8 l)&&decide ((run in8 l).length=(run dg8 l).length))
   | _=>(2,0,run dg8 l,false)
  else if 1<l.length/\isS (l.take 2)=true then (4,0,l.take 2,true)
  else (4,0,l.take 1,isS (l.take 1))
abbrev tkv (k n v:Int) (t:Bt):Value:=.agg #[.int .i64 k,.int .i64 n,.int .i64 v,.string (st t)]
def Ok (l:Bt) (w:World) (e:Ending) (w':World):Prop:=Below w.heap.size w w'/\∃ (k v:Int) (t:Bt) (ok:Bool),e=.returned (.tuple #[tkv k 0 v t,.bool ok])/\(nxI l=(k,v,t,ok)\/(ok=false/\(nxI l).2.2.2=false))
theorem Of (t:Bt) (hl:t.length<=281474976710656) (w:World) (hw:Lad w):Calls Tryz.prog 143 #[.string (st t)] w λ e w' =>
  ((∃ v,Lib.atoiAll t=.ok v/\e=.returned (.tuple #[.int .i64 v,.nilIface]))\/(∃ (x:Int) (p:Value),(∀ v,Lib.atoiAll t≠.ok v)/\e=.returned (.tuple #[.int .i64 x,.iface 228 p])))/\Below w.heap.size w w':=by
 have e0:(st t).data.toList=t:=by simp
 obtain⟨tr,pr,hr⟩:=hw.range
 obtain⟨ts,ps,hs⟩:=hw.syn
 cases h:Lib.atoiAll t
 ·rename_i v
  refine(Tryz.strconv_Atoi_ok (st t) (by show t.length<=_;omega) v (by rw[e0];exact h) w).mono ?_
  rintro e w' ⟨rfl,hh⟩
  refine⟨.inl ⟨v,rfl,rfl⟩,?_⟩
  rcases hh with rfl|⟨t',rfl⟩
  ·exact Below.refl _ _
  exact Lib.bytesWorld_below _ _ _
 ·refine(Tryz.strconv_Atoi_bad_var (st t) (by show t.length<=_;omega) (by rw[e0,h];intro v e;cases e) (by rw[e0,h];intro e;cases e) ts ps w hs).mono ?_
  rintro e w' ⟨N,rfl,_,_,hb⟩
  exact⟨.inr ⟨_,_,(λ v e=>by cases e),rfl⟩,hb⟩
 refine(Tryz.strconv_Atoi_range_var (st t) (by show t.length<=_;omega) (by rw[e0];exact h) tr pr w hr).mono ?_
 rintro e w' ⟨N,rfl,_,_,hb⟩
 exact⟨.inr ⟨_,_,(λ v e=>by cases e),rfl⟩,hb⟩
theorem Hx (v:Int) (h0 : -9223372036854775808<=v) (h1:v<=9223372036854775807) (w:World) (hw:Lad w):Calls Tryz.prog 43 #[.int .i64 v] w λ e w'=>e=.returned (.string (st (Lib.itoa v)))/\Below w.heap.size w w':=by
 refine(Tryz.strconv_Itoa v h0 h1 w hw.tab).mono ?_
 rintro e w' ⟨rfl,k,os,rfl⟩
 exact⟨rfl,Lib.below_grow _ _ (Nat.le_refl _) _ _⟩
theorem Iv (s:ByteArray) (hs:s.size<=281474976710656) (h0:0<s.size) (w:World) (hw:Lad w):Calls Tryz.prog 96 #[.string s] w (Ok s.data.toList w):=by
 have hg:=Qr s 0 h0
 obtain⟨b,hb⟩:∃ b,s[0]=b:=⟨_,rfl⟩
 rw[hb] at hg
 obtain⟨r,hl⟩:∃ r,s.data.toList=b::r:=by
  cases h:s.data.toList with
  | nil=>rw[h] at hg;simp at hg
  | cons x r=>rw[h] at hg;simp at hg;subst hg;exact⟨r,rfl⟩
 have HL:=Xj hl
 have HB:=Xj hb
 have HW:=Xj hw
 clear hg hw
 have HR1:Xq (∀ W,Calls Tryz.prog 94 #[.string s,.func (.func 140) #[] #[]] W λ e w'=>e=.returned (.string (st (run in8 s.data.toList)))/\w'=W):=Xj (λ W=>Av s (by omega) W)
 cases h1:lt8 b
 ·have H1:=Xj h1
  cases h2:dg8 b
  ·have H2:=Xj h2
   have h1s:(1:Int)<=(s.size:Int):=by omega
   have hx2:s.extract 0 2=st (s.data.toList.take 2):=by rw[Vy];simp
   have hx1:s.extract 0 1=st (s.data.toList.take 1):=by rw[Vy];simp
   have HE:Xq (nxI s.data.toList=(if 1<s.data.toList.length/\isS (s.data.toList.take 2)=true then (4,0,s.data.toList.take 2,true) else (4,0,s.data.toList.take 1,isS (s.data.toList.take 1)))):=Xj (by
    rw[hl];show (if lt8 b then _ else _)=_;rw[h1];simp only[Bool.false_eq_true,if_false];rw[h2];simp only[Bool.false_eq_true,if_false])
   clear h1 h2 hl
   have HJ:s.data.toList.length=s.size:=rfl
   rw[HJ] at HE
   obtain⟨t2,ht2⟩:∃ t,s.data.toList.take 2=t:=⟨_,rfl⟩
   obtain⟨t1,ht1⟩:∃ t,s.data.toList.take 1=t:=⟨_,rfl⟩
   rw[ht2] at hx2 HE
   rw[ht1] at hx1 HE
   clear ht1 ht2 HJ
   have HW2:Xq (∀ W,W=w.alloc (.cells #[.int .i64 0,.int .i64 0,.int .i64 0,.string { data := #[] }] 103)->Below w.heap.size w W/\W.heap[w.heap.size]?=some (.cells #[.int .i64 0,.int .i64 0,.int .i64 0,.string { data := #[] }] 103 (0,0))):=Xj (λ W hW=>by subst hW;exact⟨(Below.refl _ _).alloc (Nat.le_refl _) _,heap_alloc_new w _⟩)
   by_cases hgo:1<s.size/\isS t2=true
   ·obtain⟨hz1,hz2⟩:=hgo
    have HZ2:=Xj hz2
    have HE2:Xq (nxI s.data.toList=(4,0,t2,true)):=Xj (by rw[HE.o,if_pos ⟨hz1,hz2⟩])
    have d1:decide ((1:Int)<(s.size:Int))=true:=by rw[decide_eq_true_iff];omega
    clear hz2
    go_enter Tryz.func96,Tryz.ntmps96
    go_wp2_with fail
    refine(Jc b _).mono ?_
    rintro e w1 ⟨rfl,rfl⟩
    rw[H1.o]
    go_wp2_with fail
    refine(Uk b _).mono ?_
    rintro e w1 ⟨rfl,rfl⟩
    rw[H2.o]
    go_upto_region 11 with fail
    obtain⟨wa,hwa⟩:∃ wa,wa=w.alloc (.cells #[.int .i64 0,.int .i64 0,.int .i64 0,.string { data := #[] }] 103):=⟨_,rfl⟩
    rw[<- hwa]
    obtain⟨hba,hb2⟩:=HW2.o wa hwa
    obtain⟨g2,hg2⟩:∃ g2,w.heap.size=g2:=⟨_,rfl⟩
    rw[hg2] at hb2 ⊢
    have HBA:=Xj hba
    have HG:=Xj (Nat.le_of_eq hg2)
    have HB2:=Xj hb2
    clear hwa hba hb2 hg2 HW2
    go_wp2_with fail
    refine(Er t2 _).mono ?_
    rintro e w1 ⟨rfl,hww⟩
    subst hww
    rw[HZ2.o]
    have h2n:=HB2.o
    have k0:=cell_of_row _ _ 0 _ _ _ h2n
    have k1:=cell_of_row _ _ 1 _ _ _ h2n
    have k2:=cell_of_row _ _ 2 _ _ _ h2n
    have k3:=cell_of_row _ _ 3 _ _ _ h2n
    have j0:=frozen_of_row _ g2 0 _ _ h2n
    have j1:=frozen_of_row _ g2 1 _ _ h2n
    have j2:=frozen_of_row _ g2 2 _ _ h2n
    have j3:=frozen_of_row _ g2 3 _ _ h2n
    have jl:=Xv h2n
    go_wp2_with fail
    have hZ:=Yt (v0:=.int .i64 4) (v1:=.int .i64 0) (v2:=.int .i64 0) (v3:=.string (st t2)) h2n
    have hjw:=Zw (v0:=.int .i64 4) (v1:=.int .i64 0) (v2:=.int .i64 0) (v3:=.string (st t2)) (HBA.o) HG.o
    have k0:=cell_of_row _ _ 0 _ _ _ hZ
    have k1:=cell_of_row _ _ 1 _ _ _ hZ
    have k2:=cell_of_row _ _ 2 _ _ _ hZ
    have k3:=cell_of_row _ _ 3 _ _ _ hZ
    have hju:=Xj hjw
    obtain⟨wn,hwn⟩:∃ wn,set4 w1 g2 (.int .i64 4) (.int .i64 0) (.int .i64 0) (.string (st t2))=wn:=⟨_,rfl⟩
    have hjv:=hwn
    unfold set4 at hjv
    rw[hjv]
    rw[hwn] at hju k0 k1 k2 k3
    clear hwn hjv hZ hjw h2n j0 j1 j2 j3 jl
    refine bodyPost_ret (v:=.tuple #[tkv 4 0 0 t2,.bool true]) (by simp[results,Tryz.results96,go_sem,k0,k1,k2,k3]) rfl ?_
    exact⟨hju.o,4,0,t2,_,rfl,.inl HE2.o⟩
   have HE2:Xq (nxI s.data.toList=(4,0,t1,isS t1)):=Xj (by rw[HE.o,if_neg hgo])
   by_cases hz1:1<s.size
   ·have HZ2:Xq (isS t2=false):=Xj (by cases h:isS t2;rfl;exact absurd ⟨hz1,h⟩ hgo)
    have d1:decide ((1:Int)<(s.size:Int))=true:=by rw[decide_eq_true_iff];omega
    clear hgo
    go_enter Tryz.func96,Tryz.ntmps96
    go_wp2_with fail
    refine(Jc b _).mono ?_
    rintro e w1 ⟨rfl,rfl⟩
    rw[H1.o]
    go_wp2_with fail
    refine(Uk b _).mono ?_
    rintro e w1 ⟨rfl,rfl⟩
    rw[H2.o]
    go_upto_region 11 with fail
    obtain⟨wa,hwa⟩:∃ wa,wa=w.alloc (.cells #[.int .i64 0,.int .i64 0,.int .i64 0,.string { data := #[] }] 103):=⟨_,rfl⟩
    rw[<- hwa]
    obtain⟨hba,hb2⟩:=HW2.o wa hwa
    obtain⟨g2,hg2⟩:∃ g2,w.heap.size=g2:=⟨_,rfl⟩
    rw[hg2] at hb2 ⊢
    have HBA:=Xj hba
    have HG:=Xj (Nat.le_of_eq hg2)
    have HB2:=Xj hb2
    clear hwa hba hb2 hg2 HW2
    go_wp2_with fail
    refine(Er t2 _).mono ?_
    rintro e w1 ⟨rfl,hww⟩
    subst hww
    rw[HZ2.o]
    go_upto_region 13 with fail
    refine wp_region_held_drew (S:=(λ _=>True)) (by kernel_rfl) trivial (λ hJ=>?_)
    refine tkH 0 70 ?_
    refine tkH 1 71 ?_
    refine tkH 2 72 ?_
    refine tkH 3 73 ?_
    refine tkH 4 74 ?_
    refine rdH 5 λ K hK=>?_
    go_simp
    refine(Er t1 _).mono ?_
    rintro e wz ⟨rfl,hwz⟩
    refine goH hK trivial λ hJ=>?_
    clear hK K
    refine rdH 6 λ K hK=>?_
    have h2n:wz.heap[g2]?=some (.cells #[.int .i64 0,.int .i64 0,.int .i64 0,.string { data := #[] }] 103 (0,0)):=by rw[hwz];exact HB2.o
    have hbz:Below w.heap.size w wz:=by rw[hwz];exact HBA.o.drew
    have HBZ:=Xj hbz
    clear hwz hbz
    have k0:=cell_of_row _ _ 0 _ _ _ h2n
    have k1:=cell_of_row _ _ 1 _ _ _ h2n
    have k2:=cell_of_row _ _ 2 _ _ _ h2n
    have k3:=cell_of_row _ _ 3 _ _ _ h2n
    have j0:=frozen_of_row _ g2 0 _ _ h2n
    have j1:=frozen_of_row _ g2 1 _ _ h2n
    have j2:=frozen_of_row _ g2 2 _ _ h2n
    have j3:=frozen_of_row _ g2 3 _ _ h2n
    have jl:=Xv h2n
    go_simp
    refine goH hK trivial λ hJ=>?_
    clear hK K
    refine tkH 7 3 ?_
    refine wpAnyH_done (by kernel_rfl) ?_ _
    refine Xz ?_
    have hZ:=Yt (v0:=.int .i64 4) (v1:=.int .i64 0) (v2:=.int .i64 0) (v3:=.string (st t1)) h2n
    have hjw:=Zw (v0:=.int .i64 4) (v1:=.int .i64 0) (v2:=.int .i64 0) (v3:=.string (st t1)) (HBZ.o) HG.o
    have k0:=cell_of_row _ _ 0 _ _ _ hZ
    have k1:=cell_of_row _ _ 1 _ _ _ hZ
    have k2:=cell_of_row _ _ 2 _ _ _ hZ
    have k3:=cell_of_row _ _ 3 _ _ _ hZ
    have hju:=Xj hjw
    obtain⟨wn,hwn⟩:∃ wn,set4 wz g2 (.int .i64 4) (.int .i64 0) (.int .i64 0) (.string (st t1))=wn:=⟨_,rfl⟩
    have hjv:=hwn
    unfold set4 at hjv
    rw[hjv]
    rw[hwn] at hju k0 k1 k2 k3
    clear hwn hjv hZ hjw h2n j0 j1 j2 j3 jl
    go_wp2_with fail
    refine bodyPost_ret (v:=.tuple #[tkv 4 0 0 t1,.bool (isS t1)]) (by simp[results,Tryz.results96,go_sem,k0,k1,k2,k3]) rfl ?_
    exact⟨hju.o,4,0,t1,_,rfl,.inl HE2.o⟩
   have d1:decide ((1:Int)<(s.size:Int))=false:=by rw[decide_eq_false_iff_not];omega
   clear hgo
   go_enter Tryz.func96,Tryz.ntmps96
   go_wp2_with fail
   refine(Jc b _).mono ?_
   rintro e w1 ⟨rfl,rfl⟩
   rw[H1.o]
   go_wp2_with fail
   refine(Uk b _).mono ?_
   rintro e w1 ⟨rfl,rfl⟩
   rw[H2.o]
   go_upto_region 11 with fail
   obtain⟨wa,hwa⟩:∃ wa,wa=w.alloc (.cells #[.int .i64 0,.int .i64 0,.int .i64 0,.string { data := #[] }] 103):=⟨_,rfl⟩
   rw[<- hwa]
   obtain⟨hba,hb2⟩:=HW2.o wa hwa
   obtain⟨g2,hg2⟩:∃ g2,w.heap.size=g2:=⟨_,rfl⟩
   rw[hg2] at hb2 ⊢
   have HBA:=Xj hba
   have HG:=Xj (Nat.le_of_eq hg2)
   have HB2:=Xj hb2
   clear hwa hba hb2 hg2 HW2
   go_upto_region 13 with fail
   refine wp_region_held_drew (S:=(λ _=>True)) (by kernel_rfl) trivial (λ hJ=>?_)
   refine tkH 0 70 ?_
   refine tkH 1 71 ?_
   refine tkH 2 72 ?_
   refine tkH 3 73 ?_
   refine tkH 4 74 ?_
   refine rdH 5 λ K hK=>?_
   go_simp
   refine(Er t1 _).mono ?_
   rintro e wz ⟨rfl,hwz⟩
   refine goH hK trivial λ hJ=>?_
   clear hK K
   refine rdH 6 λ K hK=>?_
   have h2n:wz.heap[g2]?=some (.cells #[.int .i64 0,.int .i64 0,.int .i64 0,.string { data := #[] }] 103 (0,0)):=by rw[hwz];exact HB2.o
   have hbz:Below w.heap.size w wz:=by rw[hwz];exact HBA.o.drew
   have HBZ:=Xj hbz
   clear hwz hbz
   have k0:=cell_of_row _ _ 0 _ _ _ h2n
   have k1:=cell_of_row _ _ 1 _ _ _ h2n
   have k2:=cell_of_row _ _ 2 _ _ _ h2n
   have k3:=cell_of_row _ _ 3 _ _ _ h2n
   have j0:=frozen_of_row _ g2 0 _ _ h2n
   have j1:=frozen_of_row _ g2 1 _ _ h2n
   have j2:=frozen_of_row _ g2 2 _ _ h2n
   have j3:=frozen_of_row _ g2 3 _ _ h2n
   have jl:=Xv h2n
   go_simp
   refine goH hK trivial λ hJ=>?_
   clear hK K
   refine tkH 7 3 ?_
   refine wpAnyH_done (by kernel_rfl) ?_ _
   refine Xz ?_
   have hZ:=Yt (v0:=.int .i64 4) (v1:=.int .i64 0) (v2:=.int .i64 0) (v3:=.string (st t1)) h2n
   have hjw:=Zw (v0:=.int .i64 4) (v1:=.int .i64 0) (v2:=.int .i64 0) (v3:=.string (st t1)) (HBZ.o) HG.o
   have k0:=cell_of_row _ _ 0 _ _ _ hZ
   have k1:=cell_of_row _ _ 1 _ _ _ hZ
   have k2:=cell_of_row _ _ 2 _ _ _ hZ
   have k3:=cell_of_row _ _ 3 _ _ _ hZ
   have hju:=Xj hjw
   obtain⟨wn,hwn⟩:∃ wn,set4 wz g2 (.int .i64 4) (.int .i64 0) (.int .i64 0) (.string (st t1))=wn:=⟨_,rfl⟩
   have hjv:=hwn
   unfold set4 at hjv
   rw[hjv]
   rw[hwn] at hju k0 k1 k2 k3
   clear hwn hjv hZ hjw h2n j0 j1 j2 j3 jl
   go_wp2_with fail
   refine bodyPost_ret (v:=.tuple #[tkv 4 0 0 t1,.bool (isS t1)]) (by simp[results,Tryz.results96,go_sem,k0,k1,k2,k3]) rfl ?_
   exact⟨hju.o,4,0,t1,_,rfl,.inl HE2.o⟩
  have H2:=Xj h2
  have HR2:Xq (∀ W,Calls Tryz.prog 94 #[.string s,.func (.func 142) #[] #[]] W λ e w'=>e=.returned (.string (st (run dg8 s.data.toList)))/\w'=W):=Xj (λ W=>Aw s (by omega) W)
  have hrl:(run dg8 s.data.toList).length<=s.size:=Vb _ _
  have HE:Xq (nxI s.data.toList=(match Lib.atoiAll (run dg8 s.data.toList) with
   | .ok v=>(2,v,run dg8 s.data.toList,(Lib.itoa v==run dg8 s.data.toList)&&decide ((run in8 s.data.toList).length=(run dg8 s.data.toList).length))
   | _=>(2,0,run dg8 s.data.toList,false))):=Xj (by
    rw[hl];show (if lt8 b then _ else _)=_;rw[h1];simp only[Bool.false_eq_true,if_false];rw[h2];simp only[if_true])
  clear h1 h2 hl
  have HRL:=Xj hrl
  obtain⟨t,ht⟩:∃ t,run dg8 s.data.toList=t:=⟨_,rfl⟩
  obtain⟨u,hu⟩:∃ u,run in8 s.data.toList=u:=⟨_,rfl⟩
  rw[ht] at HR2 HE hrl HRL
  rw[hu] at HR1 HE
  clear ht hu
  have HAT:=Xj (λ W (hW:Lad W)=>Of t (by omega) W hW)
  clear hrl
  go_enter Tryz.func96,Tryz.ntmps96
  go_wp2_with fail
  refine(Jc b _).mono ?_
  rintro e w1 ⟨rfl,rfl⟩
  rw[H1.o]
  go_wp2_with fail
  refine(Uk b _).mono ?_
  rintro e w1 ⟨rfl,rfl⟩
  rw[H2.o]
  go_wp2_with fail
  refine(HR2.o _).mono ?_
  rintro e w1 ⟨rfl,rfl⟩
  go_upto_region 8 with fail
  have HZ:Xq (∀ W,W=((w.alloc (.cells #[.int .i64 0,.int .i64 0,.int .i64 0,.string { data := #[] }] 103)).alloc (.cells #[.int .i64 2,.int .i64 0,.int .i64 0,.string (st t)] 103))->Below w.heap.size w W/\W.heap[w.heap.size]?=some (.cells #[.int .i64 0,.int .i64 0,.int .i64 0,.string { data := #[] }] 103 (0,0))/\W.heap[w.heap.size+1]?=some (.cells #[.int .i64 2,.int .i64 0,.int .i64 0,.string (st t)] 103 (0,0))):=Xj (λ W hW=>by
   subst hW
   refine⟨((Below.refl _ _).alloc (Nat.le_refl _) _).alloc (by simp) _,?_,?_⟩
   ·rw[Below.heap_alloc _ _ _ (by simp)];exact heap_alloc_new w _
   have:=heap_alloc_new (w.alloc (.cells #[.int .i64 0,.int .i64 0,.int .i64 0,.string { data := #[] }] 103)) (.cells #[.int .i64 2,.int .i64 0,.int .i64 0,.string (st t)] 103)
   simpa using this)
  obtain⟨wa,hwa⟩:∃ wa,wa=((w.alloc (.cells #[.int .i64 0,.int .i64 0,.int .i64 0,.string { data := #[] }] 103)).alloc (.cells #[.int .i64 2,.int .i64 0,.int .i64 0,.string (st t)] 103)):=⟨_,rfl⟩
  rw[<- hwa]
  obtain⟨hba,hb2,hb5⟩:=HZ.o wa hwa
  obtain⟨g5,hg5⟩:∃ g5,w.heap.size+1=g5:=⟨_,rfl⟩
  obtain⟨g2,hg2⟩:∃ g2,w.heap.size=g2:=⟨_,rfl⟩
  rw[hg5] at hb5
  rw[hg2] at hb2
  rw[hg5]
  try rw[hg2]
  have HBA:=Xj hba
  have HG:Xq (w.heap.size<=g2/\w.heap.size<=g5/\g2≠g5):=Xj (by omega)
  have HB2:=Xj hb2
  have HB5:=Xj hb5
  have HLA:=Xj (HW.o.below hba)
  have c3:=cell_of_row _ _ 3 _ _ _ hb5
  have cl:=Xv hb5
  clear hwa hba hb2 hb5 hg5 hg2 HZ
  go_wp2_with fail
  refine(HAT.o wa HLA.o).mono ?_
  rintro e w3 ⟨hat,hb3⟩
  have HBB:=Xj (HBA.o.trans (hb3.mono HBA.o.size))
  have h5:w3.heap[g5]?=_:=(hb3.block g5 cl).trans HB5.o
  have h2:w3.heap[g2]?=_:=(hb3.block g2 (Xv HB2.o)).trans HB2.o
  clear hb3 c3 cl HB5 HB2
  obtain⟨e0,e1,e2,e3⟩:w3.cell? ⟨g5,0,none⟩=some (.int .i64 2)/\w3.cell? ⟨g5,1,none⟩=some (.int .i64 0)/\w3.cell? ⟨g5,2,none⟩=some (.int .i64 0)/\w3.cell? ⟨g5,3,none⟩=some (.string (st t)):=⟨cell_of_row _ _ 0 _ _ _ h5,cell_of_row _ _ 1 _ _ _ h5,cell_of_row _ _ 2 _ _ _ h5,cell_of_row _ _ 3 _ _ _ h5⟩
  have z0:=frozen_of_row w3 g5 2 _ _ h5
  have g5l:=Xv h5
  rcases hat with⟨v,hv,rfl⟩|⟨v,p,hno,rfl⟩
  ·have HV:=Xj hv
   clear hv
   have h5':=heap_setCell_same w3 g5 2 _ _ (.int .i64 v) h5
   have h2':(w3.setCell ⟨g5,2,none⟩ (.int .i64 v)).heap[g2]?=_:=(heap_setCell_other w3 ⟨g5,2,none⟩ g2 (.int .i64 v) (λ e=>HG.o.2.2 e)).trans h2
   have HBC:Xq (Below w.heap.size w (w3.setCell ⟨g5,2,none⟩ (.int .i64 v))):=Xj (HBB.o.setCell (by have:=HG.o;show w.heap.size<=g5;omega) _)
   go_upto_region 10 with fail
   obtain⟨wb,hwb⟩:∃ wb,w3.setCell ⟨g5,2,none⟩ (.int .i64 v)=wb:=⟨_,rfl⟩
   rw[hwb] at h5' h2' HBC ⊢
   have hbv:=Lib.atoiAll_bounds HV.o
   have HIT:Xq (∀ W,Below wb.heap.size wb W->Calls Tryz.prog 43 #[.int .i64 v] W λ e w'=>e=.returned (.string (st (Lib.itoa v)))/\Below W.heap.size W w'):=Xj (λ W hW=>Hx v hbv.1 hbv.2 W ((HW.o.below HBC.o).below hW))
   replace e0:=cell_of_row _ _ 0 _ _ _ h5'
   replace e1:=cell_of_row _ _ 1 _ _ _ h5'
   replace e2:=cell_of_row _ _ 2 _ _ _ h5'
   replace e3:=cell_of_row _ _ 3 _ _ _ h5'
   replace g5l:=Xv h5'
   have H2B:=Xj h2'
   clear hwb h5 h2 h5' h2' z0 hbv HBB
   clear w3
   obtain⟨z,hz⟩:∃ z:Bool,(Lib.itoa v==t)=z:=⟨_,rfl⟩
   have HZZ:=Xj hz
   cases z
   ·refine wp_region_held_drew (S:=(λ w'=>w'.cell? ⟨g5,0,none⟩=some (.int .i64 2)/\w'.cell? ⟨g5,1,none⟩=some (.int .i64 0)/\w'.cell? ⟨g5,2,none⟩=some (.int .i64 v)/\w'.cell? ⟨g5,3,none⟩=some (.string (st t)))) (by kernel_rfl) ⟨e0,e1,e2,e3⟩ (λ hJ=>?_)
    refine tkH 0 39 ?_
    refine tkH 1 40 ?_
    refine tkH 2 41 ?_
    refine tkH 3 42 ?_
    refine tkH 4 43 ?_
    refine tkH 6 45 ?_
    refine tkH 7 46 ?_
    refine rdH 5 λ K hK=>?_
    go_simp
    refine(HIT.o _ (Below.refl _ _).drew).mono ?_
    rintro e w8 ⟨rfl,hb8⟩
    have hb9:=(Below.refl wb.heap.size wb).drew.trans (hb8.mono (Nat.le_refl _))
    have HB9:=Xj hb9
    refine goH hK ⟨(hb9.cell (p:=⟨g5,0,none⟩) g5l).trans e0,(hb9.cell (p:=⟨g5,1,none⟩) g5l).trans e1,(hb9.cell (p:=⟨g5,2,none⟩) g5l).trans e2,(hb9.cell (p:=⟨g5,3,none⟩) g5l).trans e3⟩ λ hJ=>?_
    clear hK K hb8 hb9
    refine tkH 8 47 ?_
    refine tkH 9 48 ?_
    refine tkH 10 49 ?_
    refine tkU 11 50 ?_
    refine tkU 14 53 ?_
    refine tkU 15 54 ?_
    refine tkU 16 55 ?_
    refine tkU 12 51 ?_
    refine tkU 13 52 ?_
    refine tkU 17 56 ?_
    refine tkH 18 57 ?_
    refine rdH 19 λ K hK=>?_
    have h2n:w8.heap[g2]?=some (.cells #[.int .i64 0,.int .i64 0,.int .i64 0,.string { data := #[] }] 103 (0,0)):=(HB9.o.block g2 (Xv H2B.o)).trans H2B.o
    have k0:=cell_of_row _ _ 0 _ _ _ h2n
    have k1:=cell_of_row _ _ 1 _ _ _ h2n
    have k2:=cell_of_row _ _ 2 _ _ _ h2n
    have k3:=cell_of_row _ _ 3 _ _ _ h2n
    have j0:=frozen_of_row _ g2 0 _ _ h2n
    have j1:=frozen_of_row _ g2 1 _ _ h2n
    have j2:=frozen_of_row _ g2 2 _ _ h2n
    have j3:=frozen_of_row _ g2 3 _ _ h2n
    have jl:=Xv h2n
    go_simp
    refine goH hK ⟨Xs HG.o.2.2 ((HB9.o.cell (p:=⟨g5,0,none⟩) g5l).trans e0),Xs HG.o.2.2 ((HB9.o.cell (p:=⟨g5,1,none⟩) g5l).trans e1),Xs HG.o.2.2 ((HB9.o.cell (p:=⟨g5,2,none⟩) g5l).trans e2),Xs HG.o.2.2 ((HB9.o.cell (p:=⟨g5,3,none⟩) g5l).trans e3)⟩ λ hJ=>?_
    clear hK K
    refine tkH 20 3 ?_
    refine wpAnyH_done (by kernel_rfl) ?_ _
    refine Xz ?_
    have hZ:=Yt (v0:=.int .i64 2) (v1:=.int .i64 0) (v2:=.int .i64 v) (v3:=.string (st t)) h2n
    have hjw:=Zw (v0:=.int .i64 2) (v1:=.int .i64 0) (v2:=.int .i64 v) (v3:=.string (st t)) (HBC.o.trans (HB9.o.mono HBC.o.size)) HG.o.1
    have k0:=cell_of_row _ _ 0 _ _ _ hZ
    have k1:=cell_of_row _ _ 1 _ _ _ hZ
    have k2:=cell_of_row _ _ 2 _ _ _ hZ
    have k3:=cell_of_row _ _ 3 _ _ _ hZ
    have hju:=Xj hjw
    obtain⟨wn,hwn⟩:∃ wn,set4 w8 g2 (.int .i64 2) (.int .i64 0) (.int .i64 v) (.string (st t))=wn:=⟨_,rfl⟩
    have hjv:=hwn
    unfold set4 at hjv
    rw[hjv]
    rw[hwn] at hju k0 k1 k2 k3
    clear hwn hjv hZ hjw h2n j0 j1 j2 j3 jl hJ
    go_wp2_with fail
    refine bodyPost_ret (v:=.tuple #[tkv 2 0 v t,.bool false]) (by simp[results,Tryz.results96,go_sem,k0,k1,k2,k3];try (first|omega|(rw[Bool.eq_iff_iff];simp;omega)|(rw[Bool.eq_iff_iff];simp))) rfl ?_
    exact⟨hju.o,2,v,t,_,rfl,.inl (by rw[HE.o,HV.o];simp[HZZ.o])⟩
   refine wp_region_held_drew (S:=(λ w'=>w'.cell? ⟨g5,0,none⟩=some (.int .i64 2)/\w'.cell? ⟨g5,1,none⟩=some (.int .i64 0)/\w'.cell? ⟨g5,2,none⟩=some (.int .i64 v)/\w'.cell? ⟨g5,3,none⟩=some (.string (st t)))) (by kernel_rfl) ⟨e0,e1,e2,e3⟩ (λ hJ=>?_)
   refine tkH 0 39 ?_
   refine tkH 1 40 ?_
   refine tkH 2 41 ?_
   refine tkH 3 42 ?_
   refine tkH 4 43 ?_
   refine tkH 6 45 ?_
   refine tkH 7 46 ?_
   refine rdH 5 λ K hK=>?_
   go_simp
   refine(HIT.o _ (Below.refl _ _).drew).mono ?_
   rintro e w8 ⟨rfl,hb8⟩
   have hb9:=(Below.refl wb.heap.size wb).drew.trans (hb8.mono (Nat.le_refl _))
   have HB9:=Xj hb9
   refine goH hK ⟨(hb9.cell (p:=⟨g5,0,none⟩) g5l).trans e0,(hb9.cell (p:=⟨g5,1,none⟩) g5l).trans e1,(hb9.cell (p:=⟨g5,2,none⟩) g5l).trans e2,(hb9.cell (p:=⟨g5,3,none⟩) g5l).trans e3⟩ λ hJ=>?_
   clear hK K hb8 hb9
   refine tkH 8 47 ?_
   refine tkH 9 48 ?_
   refine tkH 10 49 ?_
   refine tkH 11 50 ?_
   refine tkH 14 53 ?_
   refine tkH 15 54 ?_
   refine tkH 16 55 ?_
   refine rdH 12 λ K hK=>?_
   go_simp
   refine(HR1.o _).mono ?_
   rintro e wz ⟨rfl,rfl⟩
   refine goH hK (by assumption) λ hJ=>?_
   clear hK K
   refine tkH 13 52 ?_
   refine tkH 17 56 ?_
   refine tkH 18 57 ?_
   refine rdH 19 λ K hK=>?_
   have h2n:wz.heap[g2]?=some (.cells #[.int .i64 0,.int .i64 0,.int .i64 0,.string { data := #[] }] 103 (0,0)):=(HB9.o.block g2 (Xv H2B.o)).trans H2B.o
   have k0:=cell_of_row _ _ 0 _ _ _ h2n
   have k1:=cell_of_row _ _ 1 _ _ _ h2n
   have k2:=cell_of_row _ _ 2 _ _ _ h2n
   have k3:=cell_of_row _ _ 3 _ _ _ h2n
   have j0:=frozen_of_row _ g2 0 _ _ h2n
   have j1:=frozen_of_row _ g2 1 _ _ h2n
   have j2:=frozen_of_row _ g2 2 _ _ h2n
   have j3:=frozen_of_row _ g2 3 _ _ h2n
   have jl:=Xv h2n
   go_simp
   refine goH hK ⟨Xs HG.o.2.2 ((HB9.o.cell (p:=⟨g5,0,none⟩) g5l).trans e0),Xs HG.o.2.2 ((HB9.o.cell (p:=⟨g5,1,none⟩) g5l).trans e1),Xs HG.o.2.2 ((HB9.o.cell (p:=⟨g5,2,none⟩) g5l).trans e2),Xs HG.o.2.2 ((HB9.o.cell (p:=⟨g5,3,none⟩) g5l).trans e3)⟩ λ hJ=>?_
   clear hK K
   refine tkH 20 3 ?_
   refine wpAnyH_done (by kernel_rfl) ?_ _
   refine Xz ?_
   have hZ:=Yt (v0:=.int .i64 2) (v1:=.int .i64 0) (v2:=.int .i64 v) (v3:=.string (st t)) h2n
   have hjw:=Zw (v0:=.int .i64 2) (v1:=.int .i64 0) (v2:=.int .i64 v) (v3:=.string (st t)) (HBC.o.trans (HB9.o.mono HBC.o.size)) HG.o.1
   have k0:=cell_of_row _ _ 0 _ _ _ hZ
   have k1:=cell_of_row _ _ 1 _ _ _ hZ
   have k2:=cell_of_row _ _ 2 _ _ _ hZ
   have k3:=cell_of_row _ _ 3 _ _ _ hZ
   have hju:=Xj hjw
   obtain⟨wn,hwn⟩:∃ wn,set4 wz g2 (.int .i64 2) (.int .i64 0) (.int .i64 v) (.string (st t))=wn:=⟨_,rfl⟩
   have hjv:=hwn
   unfold set4 at hjv
   rw[hjv]
   rw[hwn] at hju k0 k1 k2 k3
   clear hwn hjv hZ hjw h2n j0 j1 j2 j3 jl hJ
   go_wp2_with fail
   refine bodyPost_ret (v:=.tuple #[tkv 2 0 v t,.bool (decide (u.length=t.length))]) (by simp[results,Tryz.results96,go_sem,k0,k1,k2,k3];try (first|omega|(rw[Bool.eq_iff_iff];simp;omega)|(rw[Bool.eq_iff_iff];simp))) rfl ?_
   exact⟨hju.o,2,v,t,_,rfl,.inl (by rw[HE.o,HV.o];simp[HZZ.o])⟩
  have HV:Xq (nxI s.data.toList=(2,0,t,false)):=Xj (by
   rw[HE.o]
   cases h:Lib.atoiAll t
   ·rename_i v;exact absurd h (hno v)
   ·rfl
   rfl)
  clear hno
  have h5':=heap_setCell_same w3 g5 2 _ _ (.int .i64 v) h5
  have h2':(w3.setCell ⟨g5,2,none⟩ (.int .i64 v)).heap[g2]?=_:=(heap_setCell_other w3 ⟨g5,2,none⟩ g2 (.int .i64 v) (λ e=>HG.o.2.2 e)).trans h2
  have HBC:Xq (Below w.heap.size w (w3.setCell ⟨g5,2,none⟩ (.int .i64 v))):=Xj (HBB.o.setCell (by have:=HG.o;show w.heap.size<=g5;omega) _)
  go_upto_region 10 with fail
  obtain⟨wb,hwb⟩:∃ wb,w3.setCell ⟨g5,2,none⟩ (.int .i64 v)=wb:=⟨_,rfl⟩
  rw[hwb] at h5' h2' HBC ⊢
  replace e0:=cell_of_row _ _ 0 _ _ _ h5'
  replace e1:=cell_of_row _ _ 1 _ _ _ h5'
  replace e2:=cell_of_row _ _ 2 _ _ _ h5'
  replace e3:=cell_of_row _ _ 3 _ _ _ h5'
  replace g5l:=Xv h5'
  have H2B:=Xj h2'
  clear hwb h5 h2 h5' h2' z0 HBB
  clear w3
  refine wp_region_held_drew (S:=(λ w'=>w'.cell? ⟨g5,0,none⟩=some (.int .i64 2)/\w'.cell? ⟨g5,1,none⟩=some (.int .i64 0)/\w'.cell? ⟨g5,2,none⟩=some (.int .i64 v)/\w'.cell? ⟨g5,3,none⟩=some (.string (st t)))) (by kernel_rfl) ⟨e0,e1,e2,e3⟩ (λ hJ=>?_)
  refine tkH 0 39 ?_
  refine tkH 1 40 ?_
  refine tkH 2 41 ?_
  refine tkH 3 42 ?_
  refine tkU 4 43 ?_
  refine tkU 6 45 ?_
  refine tkU 7 46 ?_
  refine tkU 5 44 ?_
  refine tkU 8 47 ?_
  refine tkH 9 48 ?_
  refine tkH 10 49 ?_
  refine tkU 11 50 ?_
  refine tkU 14 53 ?_
  refine tkU 15 54 ?_
  refine tkU 16 55 ?_
  refine tkU 12 51 ?_
  refine tkU 13 52 ?_
  refine tkU 17 56 ?_
  refine tkH 18 57 ?_
  have hby:Below wb.heap.size wb wb.drew:=(Below.refl _ _).drew
  obtain⟨wy,hwy⟩:∃ wy,wb.drew=wy:=⟨_,rfl⟩
  rw[hwy] at hby hJ ⊢
  have HBY:=Xj hby
  clear hwy hby
  refine rdH 19 λ K hK=>?_
  have h2n:wy.heap[g2]?=some (.cells #[.int .i64 0,.int .i64 0,.int .i64 0,.string { data := #[] }] 103 (0,0)):=(HBY.o.block g2 (Xv H2B.o)).trans H2B.o
  have k0:=cell_of_row _ _ 0 _ _ _ h2n
  have k1:=cell_of_row _ _ 1 _ _ _ h2n
  have k2:=cell_of_row _ _ 2 _ _ _ h2n
  have k3:=cell_of_row _ _ 3 _ _ _ h2n
  have j0:=frozen_of_row _ g2 0 _ _ h2n
  have j1:=frozen_of_row _ g2 1 _ _ h2n
  have j2:=frozen_of_row _ g2 2 _ _ h2n
  have j3:=frozen_of_row _ g2 3 _ _ h2n
  have jl:=Xv h2n
  go_simp
  refine goH hK ⟨Xs HG.o.2.2 ((HBY.o.cell (p:=⟨g5,0,none⟩) g5l).trans e0),Xs HG.o.2.2 ((HBY.o.cell (p:=⟨g5,1,none⟩) g5l).trans e1),Xs HG.o.2.2 ((HBY.o.cell (p:=⟨g5,2,none⟩) g5l).trans e2),Xs HG.o.2.2 ((HBY.o.cell (p:=⟨g5,3,none⟩) g5l).trans e3)⟩ λ hJ=>?_
  clear hK K
  refine tkH 20 3 ?_
  refine wpAnyH_done (by kernel_rfl) ?_ _
  refine Xz ?_
  have hZ:=Yt (v0:=.int .i64 2) (v1:=.int .i64 0) (v2:=.int .i64 v) (v3:=.string (st t)) h2n
  have hjw:=Zw (v0:=.int .i64 2) (v1:=.int .i64 0) (v2:=.int .i64 v) (v3:=.string (st t)) (HBC.o.trans (HBY.o.mono HBC.o.size)) HG.o.1
  have k0:=cell_of_row _ _ 0 _ _ _ hZ
  have k1:=cell_of_row _ _ 1 _ _ _ hZ
  have k2:=cell_of_row _ _ 2 _ _ _ hZ
  have k3:=cell_of_row _ _ 3 _ _ _ hZ
  have hju:=Xj hjw
  obtain⟨wn,hwn⟩:∃ wn,set4 wy g2 (.int .i64 2) (.int .i64 0) (.int .i64 v) (.string (st t))=wn:=⟨_,rfl⟩
  have hjv:=hwn
  unfold set4 at hjv
  rw[hjv]
  rw[hwn] at hju k0 k1 k2 k3
  clear hwn hjv hZ hjw h2n j0 j1 j2 j3 jl hJ
  go_wp2_with fail
  refine bodyPost_ret (v:=.tuple #[tkv 2 0 v t,.bool false]) (by simp[results,Tryz.results96,go_sem,k0,k1,k2,k3];try (first|omega|(rw[Bool.eq_iff_iff];simp;omega)|(rw[Bool.eq_iff_iff];simp))) rfl ?_
  exact⟨hju.o,2,v,t,_,rfl,.inr ⟨rfl,by rw[HV.o]⟩⟩
 have HP:Xq (∀ W (e:Ending),Below w.heap.size w W->e=.returned (.tuple #[tkv (if isW (run in8 s.data.toList) then 3 else 1) 0 0 (run in8 s.data.toList),.bool (decide ((run in8 s.data.toList).length<=32))])->Ok s.data.toList w e W):=Xj (λ W e hb he=>by
  have e1:nxI s.data.toList=(if isW (run in8 s.data.toList) then 3 else 1,0,run in8 s.data.toList,decide ((run in8 s.data.toList).length<=32)):=by
   rw[hl];show (if lt8 b then _ else _)=_;rw[h1,if_pos rfl]
  exact⟨hb,_,_,_,_,he,.inl e1⟩)
 have H1:=Xj h1
 clear h1 hl
 obtain⟨t,ht⟩:∃ t,run in8 s.data.toList=t:=⟨_,rfl⟩
 rw[ht] at HP HR1
 clear ht
 go_enter Tryz.func96,Tryz.ntmps96
 go_wp2_with fail
 refine(Jc b _).mono ?_
 rintro e w1 ⟨rfl,rfl⟩
 rw[H1.o]
 go_wp2_with fail
 refine(HR1.o _).mono ?_
 rintro e w1 ⟨rfl,rfl⟩
 go_wp2_with fail
 refine(xzq t _).mono ?_
 rintro e w1 ⟨rfl,rfl⟩
 cases hW:isW t
 ·rw[hW] at HP
  clear hW
  go_upto_region 5 with fail
  go_region
  all_goals
   go_wp2
   refine bodyPost_ret (v:=.tuple #[tkv 1 0 0 t,.bool (decide (t.length<=32))]) (by simp[results,Tryz.results96,go_sem];try omega) rfl ?_
   refine HP.o _ _ ?_ (by simp;try omega)
   first
    | exact((Below.refl _ _).alloc (Nat.le_refl _) _).drew.alloc (by simp) _
    | exact(((Below.refl _ _).alloc (Nat.le_refl _) _).alloc (by simp) _).drew
    | exact(((Below.refl _ _).alloc (Nat.le_refl _) _).alloc (by simp) _)
 rw[hW] at HP
 clear hW
 go_upto_region 5 with fail
 go_region
 all_goals
  go_wp2
  refine bodyPost_ret (v:=.tuple #[tkv 3 0 0 t,.bool (decide (t.length<=32))]) (by simp[results,Tryz.results96,go_sem];try omega) rfl ?_
  refine HP.o _ _ ?_ (by simp;try omega)
  first
   | exact((Below.refl _ _).alloc (Nat.le_refl _) _).drew.alloc (by simp) _
   | exact(((Below.refl _ _).alloc (Nat.le_refl _) _).alloc (by simp) _).drew
   | exact(((Below.refl _ _).alloc (Nat.le_refl _) _).alloc (by simp) _)
structure Tk where
 k:Int
 n:Int
 v:Int
 t:Bt
deriving DecidableEq
abbrev tkc (x:Tk):List Value:=[.int .i64 x.k,.int .i64 x.n,.int .i64 x.v,.string (st x.t)]
def Vs (l:List Tk):List Value:=l.flatMap tkc
theorem Cd (l:List Tk):(Vs l).length=l.length*4:=by
 induction l with
 | nil=>rfl
 | cons s l ih=>unfold Vs at ih ⊢;rw[List.flatMap_cons,List.length_append,ih];show 4+_=(l.length+1)*4;omega
theorem Kp (l:List Tk) (x:Tk):Vs l++tkc x=Vs (l++[x]):=by unfold Vs;simp
theorem Ch (l:List Tk) (j:Nat) (s:Tk) (h:l[j]?=some s):(Vs l)[j*4]?=some (.int .i64 s.k)/\(Vs l)[j*4+1]?=some (.int .i64 s.n)/\(Vs l)[j*4+2]?=some (.int .i64 s.v)/\(Vs l)[j*4+3]?=some (.string (st s.t)):=by
 induction l generalizing j with
 | nil=>simp at h
 | cons x l ih =>
  cases j with
  | zero=>simp at h;subst h;exact⟨rfl,rfl,rfl,rfl⟩
  | succ j =>
   have:=ih j (by simpa using h)
   have e1:(j+1)*4=j*4+1+1+1+1:=by omega
   rw[e1]
   exact this
inductive Sc where
 | skip (k:Nat) (d:Int)
 | tok (x:Tk)
 | bad
def Yy (ln:Int) (b:UInt8) (r:Bt):Sc :=
 if b.toNat=10 then .skip 1 1
 else if b.toNat=32\/b.toNat=9 then .skip 1 0
 else if b.toNat=35 then .skip (run nl8 (b::r)).length 0
 else if (nxI (b::r)).2.2.2=true then .tok ⟨(nxI (b::r)).1,ln,(nxI (b::r)).2.1,(nxI (b::r)).2.2.1⟩
 else .bad
def scI:Nat->List Tk->Bt->Int->Option (List Tk)×Int
 | _,acc,[],ln=>(some (acc++[⟨0,ln,0,[]⟩]),0)
 | 0,_,_::_,ln=>(none,ln)
 | f+1,acc,b::r,ln =>
  match Yy ln b r with
  | .skip k d=>scI f acc ((b::r).drop k) (ln+d)
  | .tok x=>scI f (acc++[x]) ((b::r).drop x.t.length) ln
  | .bad=>(none,ln)
theorem Vu (f:Nat) (acc:List Tk) (ln:Int):scI f acc [] ln=(some (acc++[⟨0,ln,0,[]⟩]),0):=by cases f<;>rfl
theorem Rv (b:UInt8) (r:Bt) (h:b.toNat≠10):1<=(run nl8 (b::r)).length:=by
 unfold run
 rw[List.takeWhile_cons,show nl8 b=true by unfold nl8;simp[h],if_pos rfl]
 simp
theorem Gb {b:UInt8} {r:Bt} (h:(nxI (b::r)).2.2.2=true):1<=(nxI (b::r)).2.2.1.length:=by
 have key:∀ p:UInt8->Bool,p b=true->1<=(run p (b::r)).length:=λ p hp=>by
  unfold run
  rw[List.takeWhile_cons,hp,if_pos rfl]
  simp
 unfold nxI at h ⊢
 dsimp only at h ⊢
 by_cases h1:lt8 b=true
 ·rw[if_pos h1] at h ⊢
  exact key in8 (by unfold in8;rw[h1];rfl)
 rw[if_neg h1] at h ⊢
 by_cases h2:dg8 b=true
 ·rw[if_pos h2] at h ⊢
  have:=key dg8 h2
  cases h3:Lib.atoiAll (run dg8 (b::r))<;>first|exact this|(simp at h)
 rw[if_neg h2] at h ⊢
 by_cases h3:1<(b::r).length/\isS ((b::r).take 2)=true
 ·rw[if_pos h3] at h ⊢
  simp[List.length_take]
 rw[if_neg h3] at h ⊢
 simp
def scan (l:Bt):Option (List Tk)×Int:=scI l.length [] l 1
theorem Wg:∀ (f g:Nat) (acc:List Tk) (l:Bt) (ln:Int),l.length<=f->l.length<=g->scI f acc l ln=scI g acc l ln:=by
 intro f
 induction f with
 | zero =>
  intro g acc l ln h1 h2
  cases l with
  | nil=>rw[Vu,Vu]
  | cons b r=>simp at h1
 | succ f ih =>
  intro g acc l ln h1 h2
  cases l with
  | nil=>rw[Vu,Vu]
  | cons b r =>
   cases g with
   | zero=>simp at h2
   | succ g =>
    simp only[List.length_cons] at h1 h2
    show (match Yy ln b r with|.skip k d=>_|.tok x=>_|.bad=>_)=(match Yy ln b r with|.skip k d=>_|.tok x=>_|.bad=>_)
    cases hst:Yy ln b r with
    | skip k d =>
     have hk:1<=k:=by
      unfold Yy at hst
      split at hst
      ·injection hst with e1 e2;omega
      rename_i hb
      split at hst
      ·injection hst with e1 e2;omega
      split at hst
      ·injection hst with e1 e2;subst e1;exact Rv b r hb
      split at hst<;>cases hst
     exact ih g acc _ _ (by rw[List.length_drop,List.length_cons];omega) (by rw[List.length_drop,List.length_cons];omega)
    | tok x =>
     have hk:1<=x.t.length:=by
      unfold Yy at hst
      split at hst
      ·cases hst
      split at hst
      ·cases hst
      split at hst
      ·cases hst
      split at hst
      ·rename_i hok;injection hst with e1;subst e1;exact Gb hok
      cases hst
     exact ih g _ _ _ (by rw[List.length_drop,List.length_cons];omega) (by rw[List.length_drop,List.length_cons];omega)
    | bad=>rfl
theorem Vt {ln:Int} {b:UInt8} {r:Bt} {k:Nat} {d:Int} (hst:Yy ln b r=.skip k d):1<=k:=by
 unfold Yy at hst
 split at hst
 ·injection hst with e1 e2;omega
 rename_i hb
 split at hst
 ·injection hst with e1 e2;omega
 split at hst
 ·injection hst with e1 e2;subst e1;exact Rv b r hb
 split at hst<;>cases hst
theorem Ij (l:Bt):(nxI l).2.2.1.length<=l.length:=by
 cases l with
 | nil=>simp[nxI]
 | cons b r =>
  unfold nxI
  dsimp only
  by_cases h1:lt8 b=true
  ·rw[if_pos h1];exact Vb _ _
  rw[if_neg h1]
  by_cases h2:dg8 b=true
  ·rw[if_pos h2]
   cases h3:Lib.atoiAll (run dg8 (b::r))<;>exact Vb _ _
  rw[if_neg h2]
  by_cases h3:1<(b::r).length/\isS ((b::r).take 2)=true
  ·rw[if_pos h3];simp only[List.length_take];omega
  rw[if_neg h3];simp only[List.length_take];omega
theorem Sw {x y:ByteArray} {acc:List Tk} {ln d:Int} {b:UInt8} {r:Bt} {k:Nat} (hx:x.data.toList=b::r) (hst:Yy ln b r=.skip k d) (hy:y.data.toList=(b::r).drop k) :
  scI x.size acc x.data.toList ln=scI y.size acc y.data.toList (ln+d):=by
 have hk:=Vt hst
 have e1:x.size=r.length+1:=by rw[<- st_len,hx];rfl
 have e2:y.size=r.length+1-k:=by rw[<- st_len,hy,List.length_drop];rfl
 rw[e1,hx]
 show (match Yy ln b r with|.skip k d=>_|.tok x=>_|.bad=>_)=_
 rw[hst]
 show scI r.length acc ((b::r).drop k) (ln+d)=_
 rw[<- hy]
 exact Wg _ _ _ _ _ (by rw[st_len];omega) (by rw[st_len];omega)
theorem Fz {x y:ByteArray} {acc:List Tk} {ln:Int} {b:UInt8} {r:Bt} {z:Tk} (hx:x.data.toList=b::r) (hst:Yy ln b r=.tok z) (hk:1<=z.t.length) (hy:y.data.toList=(b::r).drop z.t.length) :
  scI x.size acc x.data.toList ln=scI y.size (acc++[z]) y.data.toList ln:=by
 have e1:x.size=r.length+1:=by rw[<- st_len,hx];rfl
 have e2:y.size=r.length+1-z.t.length:=by rw[<- st_len,hy,List.length_drop];rfl
 rw[e1,hx]
 show (match Yy ln b r with|.skip k d=>_|.tok x=>_|.bad=>_)=_
 rw[hst]
 show scI r.length (acc++[z]) ((b::r).drop z.t.length) ln=_
 rw[<- hy]
 exact Wg _ _ _ _ _ (by rw[st_len];omega) (by rw[st_len];omega)
theorem Fx {x:ByteArray} {acc:List Tk} {ln:Int} {b:UInt8} {r:Bt} (hx:x.data.toList=b::r) (hst:Yy ln b r=.bad):scI x.size acc x.data.toList ln=(none,ln):=by
 have e1:x.size=r.length+1:=by rw[<- st_len,hx];rfl
 rw[e1,hx]
 show (match Yy ln b r with|.skip k d=>_|.tok x=>_|.bad=>_)=_
 rw[hst]
theorem Uv (x:ByteArray) (k:Nat):(x.extract k x.size).data.toList=x.data.toList.drop k:=by
 rw[Vy]
 simp
 rw[List.take_of_length_le (by rw[st_len];exact Nat.le_refl _)]
theorem Tryz.infoTok:(Tryz.prog.info? 103).map (λ i=>(i.zero,i.size,i.bytes))=some (some (.agg #[.int .i64 0,.int .i64 0,.int .i64 0,.string ⟨#[]⟩]),4,40):=by kernel_rfl
def Fj:Value->Nat
 | .string b=>b.size
 | _=>0
def Ws (l:Bt) (w:World) (e:Ending) (w':World):Prop:=Below w.heap.size w w' /\
 ((65536<l.length/\e=.returned (.tuple #[.slice none 0 0,.int .i64 0,.int .i64 5])) \/
  (l.length<=65536/\(scan l).1=none/\e=.returned (.tuple #[.slice none 0 0,.int .i64 (scan l).2,.int .i64 6])) \/
  (l.length<=65536/\∃ (ts:List Tk) (v:Value),(scan l).1=some ts/\e=.returned (.tuple #[v,.int .i64 0,.int .i64 0])/\w'.ownsRow w.heap.size 103 4 v ts.length (Vs ts)))
theorem Ou (s:ByteArray) (hs:s.size<=281474976710656) (w:World) (hw:Lad w):Calls Tryz.prog 55 #[.string s] w (Ws s.data.toList w):=by
 have HW:=Xj hw
 clear hw
 by_cases hqn:65536<s.size
 ·have d0:decide ((65536:Int)<(s.size:Int))=true:=by rw[decide_eq_true_iff];omega
  have HBG:=Xj hqn
  clear hqn
  go_enter Tryz.func55,Tryz.ntmps55
  go_wp2_with fail
  refine bodyPost_ret (v:=.tuple #[.slice none 0 0,.int .i64 0,.int .i64 5]) (by simp[results,Tryz.results55,go_sem]) rfl ?_
  exact⟨Below.refl _ _,.inl ⟨HBG.o,rfl⟩⟩
 have d0:decide ((65536:Int)<(s.size:Int))=false:=by rw[decide_eq_false_iff_not];omega
 have hs2:s.size<=65536:=by omega
 have hjg:Xq (∀ (e:Ending) (w':World),Below w.heap.size w w'->(((scan s.data.toList).1=none/\e=.returned (.tuple #[.slice none 0 0,.int .i64 (scan s.data.toList).2,.int .i64 6]))\/(∃ (ts:List Tk) (v:Value),(scan s.data.toList).1=some ts/\e=.returned (.tuple #[v,.int .i64 0,.int .i64 0])/\w'.ownsRow w.heap.size 103 4 v ts.length (Vs ts)))->Ws s.data.toList w e w'):=Xj (λ e w' hb h=>⟨hb,by
  rcases h with h|h
  ·exact .inr (.inl ⟨hs2,h⟩)
  exact .inr (.inr ⟨hs2,h⟩)⟩)
 clear hqn
 obtain⟨i0,hi0,hz0,hz1,hz2⟩:=info_parts Tryz.infoTok
 have HI:=Xj hi0
 have HZ0:=Xj hz0
 have HZ1:=Xj hz1
 have HZ2:=Xj hz2
 clear hi0 hz0 hz1 hz2
 go_enter Tryz.func55,Tryz.ntmps55
 go_upto_region 4 with fail
 go_loopw [0,2,3] (λ v0 v2 v3 wr=>∃ (x:ByteArray) (ln:Int) (acc:List Tk),v0=.string x/\v3=.int .i64 ln/\x.size<=s.size/\1<=ln/\ln+x.size<=65537/\acc.length+x.size<=65536/\Xq (scan s.data.toList=scI x.size acc x.data.toList ln)/\Xq (Below w.heap.size w wr/\wr.ownsRow w.heap.size 103 4 v2 acc.length (Vs acc))) (λ v0 _ _ _=>Fj v0)
 case atStart=>exact⟨s,1,[],rfl,rfl,by omega,by omega,by omega,by simp;omega,Xj rfl,Xj ⟨Below.refl _ _,World.ownsRow_nil _ _ _ _⟩⟩
 obtain⟨x,ln,acc,rfl,rfl,hx,hl1,hl2,hac,HS,HR⟩:=hrel
 cases hx0:x.data.toList with
 | nil =>
  have hemp:x.toList.isEmpty=true:=by rw[toList_bytes,hx0];rfl
  have HE:Xq (scan s.data.toList=(some (acc++[⟨0,ln,0,[]⟩]),0)):=Xj (by rw[HS.o,hx0,Vu])
  have HOA:=Xj (HR.o.2.alloc (.cells #[.int .i64 0,.int .i64 ln,.int .i64 0,.string ⟨#[]⟩] 103))
  have hbA:=HR.o.1.alloc HR.o.1.size (.cells #[.int .i64 0,.int .i64 ln,.int .i64 0,.string ⟨#[]⟩] 103)
  have HBA:=Xj hbA
  have hsz:=HR.o.1.size
  clear hx0 hbA
  go_wp2_with (at_builtin;refine wpList_append_own _ rfl _ _ _ rfl w.heap.size 103 i0 _ 4 40 Tryz.underlying86 HI.o HZ0.o HZ1.o HZ2.o rfl (by omega) _ _ _ rfl HOA.o ⟨wr.heap.size,0,none⟩ 1 1 [.int .i64 0,.int .i64 ln,.int .i64 0,.string ⟨#[]⟩] rfl rfl (World.news_of_block (cs := #[.int .i64 0,.int .i64 ln,.int .i64 0,.string ⟨#[]⟩]) (t:=103) (fr:=(0,0)) (heap_alloc_new wr _)) (by simp[Value.oneCell']) (by unfold maxLen;omega) (by omega) (by simp;omega) ?_;intro v' w9 hown9 hgrow9 _;have HO9:=Xj hown9;have HG9:=Xj hgrow9;clear hown9 hgrow9)
  refine bodyPost_ret (v:=.tuple #[v',.int .i64 0,.int .i64 0]) (by simp[results,Tryz.results55,go_sem]) rfl ?_
  refine hjg.o _ _ (HBA.o.grown HG9.o HBA.o.size (λ k hk=>(HOA.o.lt k hk).1)) (.inr ⟨acc++[⟨0,ln,0,[]⟩],v',by rw[HE.o],rfl,?_⟩)
  have:=HO9.o
  rw[<- Kp]
  simpa using this
 | cons b r =>
  have hxs:x.size=r.length+1:=by rw[<- st_len,hx0];rfl
  have hvy:0<x.size:=by omega
  have hemp:x.toList.isEmpty=false:=by rw[toList_bytes,hx0];rfl
  have hb0:x[0]=b:=by
   have:=Qr x 0 hvy
   rw[hx0] at this
   simp at this
   exact this.symm
  have HX0:=Xj hx0
  have HSK:Xq (∀ (y:ByteArray) (k:Nat) (d l2:Int),l2=ln+d->y=x.extract k x.size->k<=x.size->Yy ln b r=.skip k d->0<=d->d<=1->(∃ (x_1:ByteArray) (ln_1:Int) (acc:List Tk),Value.string y=.string x_1/\Value.int .i64 l2=.int .i64 ln_1/\x_1.size<=s.size/\1<=ln_1/\ln_1+x_1.size<=65537/\acc.length+x_1.size<=65536/\Xq (scan s.data.toList=scI x_1.size acc x_1.data.toList ln_1)/\Xq (Below w.heap.size w wr/\wr.ownsRow w.heap.size 103 4 u2 acc.length (Vs acc)))/\Fj (.string y)<x.size):=Xj (λ y k d l2 hl hy hk hst hd0 hd1=>by
   subst hl
   have hyl:y.data.toList=(b::r).drop k:=by rw[hy,Uv,HX0.o]
   have hk1:=Vt hst
   have hys:y.size=x.size-k:=by rw[<- st_len,hyl,List.length_drop];simp;omega
   refine⟨⟨y,ln+d,acc,rfl,rfl,by omega,by omega,by omega,by omega,Xj ?_,HR⟩,by show y.size<_;omega⟩
   rw[HS.o]
   exact Sw HX0.o hst hyl)
  clear hxs
  by_cases h10:b.toNat=10
  ·have d10:((b.toNat:Int)==10)=true:=by rw[beq_iff_eq];omega
   have HST:Xq (Yy ln b r=.skip 1 1):=Xj (by unfold Yy;rw[if_pos h10])
   clear h10 hx0
   go_wp2_with fail
   exact HSK.o _ 1 1 _ (by first|rfl|simp) rfl (by omega) HST.o (by omega) (by omega)
  have d10:((b.toNat:Int)==10)=false:=by rw[beq_eq_false_iff_ne];omega
  by_cases h32:b.toNat=32
  ·have d32:((b.toNat:Int)==32)=true:=by rw[beq_iff_eq];omega
   have HST:Xq (Yy ln b r=.skip 1 0):=Xj (by unfold Yy;rw[if_neg h10,if_pos (.inl h32)])
   clear h10 h32 hx0
   go_wp2_with fail
   exact HSK.o _ 1 0 _ (by simp) rfl (by omega) HST.o (by omega) (by omega)
  have d32:((b.toNat:Int)==32)=false:=by rw[beq_eq_false_iff_ne];omega
  by_cases h9:b.toNat=9
  ·have d9:((b.toNat:Int)==9)=true:=by rw[beq_iff_eq];omega
   have HST:Xq (Yy ln b r=.skip 1 0):=Xj (by unfold Yy;rw[if_neg h10,if_pos (.inr h9)])
   clear h10 h32 h9 hx0
   go_wp2_with fail
   exact HSK.o _ 1 0 _ (by simp) rfl (by omega) HST.o (by omega) (by omega)
  have d9:((b.toNat:Int)==9)=false:=by rw[beq_eq_false_iff_ne];omega
  by_cases h35:b.toNat=35
  ·have d35:((b.toNat:Int)==35)=true:=by rw[beq_iff_eq];omega
   have HST:Xq (Yy ln b r=.skip (run nl8 x.data.toList).length 0):=Xj (by unfold Yy;rw[if_neg h10,if_neg (by omega),if_pos h35,hx0])
   have hrl:=Vb nl8 x.data.toList
   rw[st_len] at hrl
   clear h10 h32 h9 h35 hx0
   go_wp2_with fail
   refine(Fk x (by omega) _).mono ?_
   rintro e w1 ⟨rfl,hw1⟩
   subst hw1
   obtain⟨t,ht⟩:∃ t,run nl8 x.data.toList=t:=⟨_,rfl⟩
   rw[ht] at HST hrl ⊢
   clear ht
   go_wp2_with fail
   exact HSK.o _ _ 0 _ (by simp) rfl hrl HST.o (by omega) (by omega)
  have d35:((b.toNat:Int)==35)=false:=by rw[beq_eq_false_iff_ne];omega
  have HST:Xq (Yy ln b r=if (nxI (b::r)).2.2.2=true then .tok ⟨(nxI (b::r)).1,ln,(nxI (b::r)).2.1,(nxI (b::r)).2.2.1⟩ else .bad):=Xj (by unfold Yy;rw[if_neg h10,if_neg (by omega),if_neg h35])
  clear h10 h32 h9 h35 hx0
  go_wp2_with fail
  refine(Iv x (by omega) hvy _ (HW.o.below HR.o.1)).mono ?_
  rintro e w1 ⟨hb1,k,v,t,ok,rfl,hnx⟩
  rw[HX0.o] at hnx
  have hsz:=HR.o.1.size
  have HB1:=Xj (HR.o.1.trans (hb1.mono HR.o.1.size))
  have HO1:=Xj (Kc HR.o.2 hb1)
  clear hb1
  cases ok
  ·have hqg:Xq (scan s.data.toList=(none,ln)):=Xj (by
    rw[HS.o]
    refine Fx HX0.o ?_
    rw[HST.o,if_neg]
    rcases hnx with h|⟨_,h⟩<;>rw[h]<;>simp)
   clear hnx
   go_wp2_with fail
   refine bodyPost_ret (v:=.tuple #[.slice none 0 0,.int .i64 ln,.int .i64 6]) (by simp[results,Tryz.results55,go_sem]) rfl ?_
   exact hjg.o _ _ (HB1.o.alloc HB1.o.size _) (.inl ⟨by rw[hqg.o],by rw[hqg.o]⟩)
  have hqt:nxI (b::r)=(k,v,t,true):=by
   rcases hnx with h|⟨h,_⟩
   ·exact h
   cases h
  have hpb:Xq (Yy ln b r=.tok ⟨k,ln,v,t⟩):=Xj (by rw[HST.o,hqt];simp)
  have ht1:1<=t.length:=by have:=Gb (b:=b) (r:=r) (by rw[hqt]);rw[hqt] at this;exact this
  have ht2:t.length<=x.size:=by have:=Ij (b::r);rw[hqt,<- HX0.o,st_len] at this;exact this
  clear hnx hqt
  have hym:=HB1.o.size
  go_upto_region 10 with fail
  obtain⟨w2,hw2⟩:∃ w2,w2=(w1.alloc (.cells #[.int .i64 k,.int .i64 ln,.int .i64 v,.string (st t)] 103)):=⟨_,rfl⟩
  rw[<- hw2]
  have hbb:Below w1.heap.size w1 w2:=by rw[hw2];exact(Below.refl _ _).alloc (Nat.le_refl _) _
  have hqv:w2.heap[w1.heap.size]?=some (.cells #[.int .i64 k,.int .i64 ln,.int .i64 v,.string (st t)] 103 (0,0)):=by rw[hw2];exact heap_alloc_new w1 _
  have HB2:=Xj (HB1.o.trans (hbb.mono HB1.o.size))
  have HO2:=Xj (Kc HO1.o hbb)
  have HNG:Xq (∀ q,u2.ownBlock=some q->q≠w1.heap.size):=Xj (λ q hq=>by have:=(HO1.o.lt q hq).2;omega)
  have HBL:=Xj hqv
  have c0:=cell_of_row _ _ 0 _ _ _ hqv
  have c1:=cell_of_row _ _ 1 _ _ _ hqv
  have c2:=cell_of_row _ _ 2 _ _ _ hqv
  have c3:=cell_of_row _ _ 3 _ _ _ hqv
  have cl:=Xv hqv
  obtain⟨g5,hg5⟩:∃ g5,w1.heap.size=g5:=⟨_,rfl⟩
  rw[hg5] at HNG HBL c0 c1 c2 c3 cl ⊢
  clear hw2 hbb hqv hg5 hym
  have HOA:=Xj (HO2.o.alloc (.cells #[.int .i64 k,.int .i64 ln,.int .i64 v,.string (st t)] 103))
  have HBA:=Xj (HB2.o.alloc HB2.o.size (.cells #[.int .i64 k,.int .i64 ln,.int .i64 v,.string (st t)] 103))
  have HBLA:Xq ((w2.alloc (.cells #[.int .i64 k,.int .i64 ln,.int .i64 v,.string (st t)] 103)).heap[g5]?=some (.cells #[.int .i64 k,.int .i64 ln,.int .i64 v,.string (st t)] 103 (0,0))):=Xj ((Below.heap_alloc w2 _ g5 cl).trans HBL.o)
  have hvu:=HB2.o.size
  clear HB1 HO1
  clear w1
  go_upto_region 11 with(at_builtin;refine wpList_append_own _ rfl _ _ _ rfl w.heap.size 103 i0 _ 4 40 Tryz.underlying86 HI.o HZ0.o HZ1.o HZ2.o rfl (by omega) _ _ _ rfl HOA.o ⟨w2.heap.size,0,none⟩ 1 1 [.int .i64 k,.int .i64 ln,.int .i64 v,.string (st t)] rfl rfl (World.news_of_block (cs := #[.int .i64 k,.int .i64 ln,.int .i64 v,.string (st t)]) (t:=103) (fr:=(0,0)) (heap_alloc_new w2 _)) (by simp[Value.oneCell']) (by unfold maxLen;omega) (by omega) (by simp;omega) ?_;intro v' w9 hown9 hgrow9 _;have HO9:=Xj hown9;have HG9:=Xj hgrow9;clear hown9 hgrow9)
  have h9:w9.heap[g5]?=_:=(HG9.o.block g5 (Xv HBLA.o) (λ e=>HNG.o g5 e.symm rfl)).trans HBLA.o
  have HB9:=Xj (HBA.o.grown HG9.o HBA.o.size (λ k hk=>(HOA.o.lt k hk).1))
  clear c0 c1 c2 c3 cl
  have c3:=cell_of_row _ _ 3 _ _ _ h9
  have cl:=Xv h9
  clear h9
  have ht2':(t.length:Int)<=(x.size:Int):=by omega
  go_wp2_with fail
  have hyl:=Uv x t.length
  have hys:(x.extract t.length x.size).size=x.size-t.length:=by rw[<- st_len,hyl,List.length_drop,st_len]
  refine⟨⟨x.extract t.length x.size,ln,acc++[⟨k,ln,v,t⟩],rfl,rfl,by omega,by omega,by omega,by simp;omega,Xj ?_,Xj ⟨HB9.o,?_⟩⟩,by show (x.extract t.length x.size).size<x.size;rw[hys];omega⟩
  ·rw[HS.o]
   exact Fz HX0.o hpb.o ht1 (by rw[hyl,HX0.o])
  have:=HO9.o
  rw[<- Kp]
  simpa using this
theorem Tryz.infoByte:(Tryz.prog.info? 5).map (λ i=>(i.zero,i.size,i.bytes))=some (some (.int .u8 0),1,1):=by kernel_rfl
theorem Fv {f:Nat} {acc:List Tk} {b:UInt8} {r:Bt} {ln d:Int} {k:Nat} (h:Yy ln b r=.skip k d):scI (f+1) acc (b::r) ln=scI f acc ((b::r).drop k) (ln+d):=by
 show (match Yy ln b r with|.skip k d=>_|.tok x=>_|.bad=>_)=_
 rw[h]
theorem xju {f:Nat} {acc:List Tk} {b:UInt8} {r:Bt} {ln:Int} {x:Tk} (h:Yy ln b r=.tok x):scI (f+1) acc (b::r) ln=scI f (acc++[x]) ((b::r).drop x.t.length) ln:=by
 show (match Yy ln b r with|.skip k d=>_|.tok x=>_|.bad=>_)=_
 rw[h]
theorem xjb {f:Nat} {acc:List Tk} {b:UInt8} {r:Bt} {ln:Int} (h:Yy ln b r=.bad):scI (f+1) acc (b::r) ln=(none,ln):=by
 show (match Yy ln b r with|.skip k d=>_|.tok x=>_|.bad=>_)=_
 rw[h]
def Tks (w:World) (a:Option Addr) (ts:List Tk):Prop:=∀ j x,ts[j]?=some x->∃ b off,a=some ⟨b,off,none⟩/\b<w.heap.size /\
 w.cell? ⟨b,off+j*4,none⟩=some (.int .i64 x.k)/\w.cell? ⟨b,off+j*4+1,none⟩=some (.int .i64 x.n)/\w.cell? ⟨b,off+j*4+2,none⟩=some (.int .i64 x.v)/\w.cell? ⟨b,off+j*4+3,none⟩=some (.string (st x.t))
theorem Tks.of_own {w:World} {base n:Nat} {e:TypeId} {v:Value} {ts:List Tk} (h:w.ownsRow base e 4 v n (Vs ts)) :
  ∃ a cap,v=.slice a n cap/\ts.length=n/\n<=cap/\cap<=maxLen/\Tks w a ts/\∀ x,a=some x->base<=x.block:=by
 obtain⟨a,cap,rfl,h1,h2,h3,h4,h5⟩:=Yd.of_own h
 rw[Cd] at h1
 refine⟨a,cap,rfl,by omega,h2,h3,λ j s hj=>?_,h5⟩
 obtain⟨g1,g2,g3,g4⟩:=Ch ts j s hj
 obtain⟨b,off,e1,hb,hc⟩:=h4 (λ e=>by rw[e] at g1;simp at g1)
 exact⟨b,off,e1,hb,hc _ _ g1,by rw[Nat.add_assoc];exact hc _ _ g2,by rw[Nat.add_assoc];exact hc _ _ g3,by rw[Nat.add_assoc];exact hc _ _ g4⟩
theorem Tks.below {w w':World} {a:Option Addr} {ts:List Tk} (h:Tks w a ts) (hb:Below w.heap.size w w'):Tks w' a ts:=λ j x hj=>by
 obtain⟨b,off,e,hlt,h1,h2,h3,h4⟩:=h j x hj
 exact⟨b,off,e,by have:=hb.size;omega,(hb.cell (p:=⟨b,off+j*4,none⟩) hlt).trans h1,(hb.cell (p:=⟨b,off+j*4+1,none⟩) hlt).trans h2,(hb.cell (p:=⟨b,off+j*4+2,none⟩) hlt).trans h3,(hb.cell (p:=⟨b,off+j*4+3,none⟩) hlt).trans h4⟩
def scF (acc:List Tk) (l:Bt) (ln:Int):Option (List Tk)×Int:=scI l.length acc l ln
theorem Dg (acc:List Tk) (ln:Int):scF acc [] ln=(some (acc++[⟨0,ln,0,[]⟩]),0):=Vu _ _ _
theorem Kz {acc:List Tk} {b:UInt8} {r:Bt} {ln d:Int} {k:Nat} (h:Yy ln b r=.skip k d):scF acc (b::r) ln=scF acc ((b::r).drop k) (ln+d):=by
 show scI (r.length+1) acc (b::r) ln=_
 rw[Fv h]
 have:=Vt h
 exact Wg _ _ _ _ _ (by rw[List.length_drop,List.length_cons];omega) (Nat.le_refl _)
theorem Uy {ln:Int} {b:UInt8} {r:Bt} {x:Tk} (h:Yy ln b r=.tok x):b.toNat≠10/\b.toNat≠32/\b.toNat≠9/\b.toNat≠35/\nxI (b::r)=(x.k,x.v,x.t,true)/\x.n=ln:=by
 unfold Yy at h
 split at h
 ·cases h
 split at h
 ·cases h
 split at h
 ·cases h
 split at h
 ·rename_i h1 h2 h3 h4
  injection h with h
  subst h
  refine⟨h1,by omega,by omega,h3,?_,rfl⟩
  rw[<- h4]
 cases h
theorem Sv {ln:Int} {b:UInt8} {r:Bt} {k v:Int} {t:Bt} (h1:b.toNat≠10) (h2:b.toNat≠32) (h3:b.toNat≠9) (h4:b.toNat≠35) (h:nxI (b::r)=(k,v,t,true)):Yy ln b r=.tok ⟨k,ln,v,t⟩:=by
 unfold Yy
 rw[if_neg h1,if_neg (by omega),if_neg h4,h]
 rfl
theorem Dp {acc:List Tk} {b:UInt8} {r:Bt} {ln:Int} {x:Tk} (h:Yy ln b r=.tok x):scF acc (b::r) ln=scF (acc++[x]) ((b::r).drop x.t.length) ln:=by
 show scI (r.length+1) acc (b::r) ln=_
 rw[xju h]
 obtain⟨_,_,_,_,h5,_⟩:=Uy h
 have:=Gb (b:=b) (r:=r) (by rw[h5])
 rw[h5] at this
 exact Wg _ _ _ _ _ (by rw[List.length_drop,List.length_cons];dsimp only at this;omega) (Nat.le_refl _)
theorem xjp {acc:List Tk} {b:UInt8} {r:Bt} {ln:Int} (h:Yy ln b r=.bad):scF acc (b::r) ln=(none,ln):=xjb h
theorem xxj (l:Bt):scan l=scF [] l 1:=rfl
theorem Ww {b:UInt8} {r:Bt} (h1:lt8 b=false) (h2:dg8 b=true):nxI (b::r)=(match Lib.atoiAll (run dg8 (b::r)) with
  | .ok v=>(2,v,run dg8 (b::r),(Lib.itoa v==run dg8 (b::r))&&decide ((run in8 (b::r)).length=(run dg8 (b::r)).length))
  | _=>(2,0,run dg8 (b::r),false)):=by
 show (if lt8 b then _ else _)=_
 rw[h1];simp only[Bool.false_eq_true,if_false];rw[h2];simp only[if_true]
 all_goals (cases Lib.atoiAll (run dg8 (b::r))<;>rfl)
def Ax (r:Bt):Prop:=∀ c r2,r=c::r2->c.toNat=32\/c.toNat=10\/c.toNat=9
def Uf (x:Tk):Prop:=∃ ln b r,Yy ln b r=.tok x
theorem Vp {p:UInt8->Bool} {t r:Bt} (h:∀ c∈t,p c=true):run p (t++r)=t++run p r:=by
 unfold run
 induction t with
 | nil=>rfl
 | cons c t ih =>
  rw[List.cons_append,List.takeWhile_cons,if_pos (h c (by simp)),ih (λ d hd=>h d (by simp[hd]))]
  rfl
theorem Ub {p:UInt8->Bool} {r:Bt} (h:∀ c r2,r=c::r2->p c=false):run p r=[]:=by
 unfold run
 cases r with
 | nil=>rfl
 | cons c r=>rw[List.takeWhile_cons,if_neg (by rw[h c r rfl];simp)]
theorem Sk {p:UInt8->Bool} {l:Bt}:∀ c∈run p l,p c=true:=by
 unfold run
 induction l with
 | nil=>simp
 | cons x l ih =>
  intro c hc
  rw[List.takeWhile_cons] at hc
  split at hc
  ·rename_i hx
   rw[List.mem_cons] at hc
   rcases hc with rfl|hc
   ·exact hx
   exact ih c hc
  cases hc
theorem Lm {c:UInt8} (h:dg8 c=true):in8 c=true:=by unfold in8;rw[h];simp
theorem Fq {r:Bt} (h:Ax r):∀ c r2,r=c::r2->in8 c=false:=by
 intro c r2 e
 have:=h c r2 e
 unfold in8 lt8 dg8
 simp
 omega
theorem xzt {r:Bt} (h:Ax r):∀ c r2,r=c::r2->dg8 c=false:=by
 intro c r2 e
 have:=h c r2 e
 unfold dg8
 simp
 omega
theorem Sh {b c:UInt8} (h:isS [b,c]=true):c=61\/c=38\/c=124:=by
 simp[isS,signsL] at h
 rcases h with⟨_,h⟩|⟨_,h⟩|⟨_,h⟩|⟨_,h⟩|⟨_,h⟩<;>simp[h]
theorem xjy {b:UInt8} {r:Bt} (h:Ax r):¬ (1<(b::r).length/\isS ((b::r).take 2)=true):=by
 intro ⟨h1,h2⟩
 cases r with
 | nil=>simp at h1
 | cons c r =>
  have h3:=h c r rfl
  have h4:=Sh (b:=b) (c:=c) h2
  rcases h4 with rfl|rfl|rfl<;>simp at h3
theorem Iq {b:UInt8} {l:Bt} {k v:Int} {t:Bt} (h:nxI (b::l)=(k,v,t,true)) (r:Bt) (hr:Ax r):∃ tt,t=b::tt/\nxI (t++r)=(k,v,t,true):=by
 by_cases h1:lt8 b=true
 ·have hin:in8 b=true:=by unfold in8;rw[h1];rfl
  have e0:nxI (b::l)=(if isW (run in8 (b::l)) then 3 else 1,0,run in8 (b::l),decide ((run in8 (b::l)).length<=32)):=by
   show (if lt8 b then _ else _)=_
   rw[if_pos h1]
  rw[e0] at h
  injection h with ek h
  injection h with ev h
  injection h with et eo
  have hb:∃ tt,t=b::tt:=by
   rw[<- et]
   unfold run
   rw[List.takeWhile_cons,if_pos hin]
   exact⟨_,rfl⟩
  obtain⟨tt,htt⟩:=hb
  refine⟨tt,htt,?_⟩
  have hqu:∀ c∈t,in8 c=true:=by rw[<- et];exact Sk
  have hzj:run in8 (t++r)=t:=by rw[Vp hqu,Ub (Fq hr),List.append_nil]
  rw[et] at ek eo
  have e1:nxI (t++r)=(if isW (run in8 (t++r)) then 3 else 1,0,run in8 (t++r),decide ((run in8 (t++r)).length<=32)):=by
   rw[htt,List.cons_append]
   show (if lt8 b then _ else _)=_
   rw[if_pos h1]
  rw[e1,hzj,eo,ek,ev]
 by_cases h2:dg8 b=true
 ·have e0:nxI (b::l)=_:=Ww (by simpa using h1) h2
  have hb:∃ tt,run dg8 (b::l)=b::tt:=by
   unfold run
   rw[List.takeWhile_cons,if_pos h2]
   exact⟨_,rfl⟩
  rw[e0] at h
  cases ha:Lib.atoiAll (run dg8 (b::l))
  case ok z =>
   rw[ha] at h
   injection h with ek h
   injection h with ev h
   injection h with et eo
   obtain⟨tt,htt⟩:=hb
   rw[et] at htt ha eo
   refine⟨tt,htt,?_⟩
   have hqu:∀ c∈t,dg8 c=true:=by rw[<- et];exact Sk
   have hzj:run dg8 (t++r)=t:=by rw[Vp hqu,Ub (xzt hr),List.append_nil]
   have hpp:run in8 (t++r)=t:=by rw[Vp (λ c hc=>Lm (hqu c hc)),Ub (Fq hr),List.append_nil]
   have e1:=Ww (b:=b) (r:=tt++r) (by simpa using h1) h2
   rw[<- List.cons_append,<- htt,hzj,ha,hpp] at e1
   rw[Bool.and_eq_true] at eo
   rw[e1]
   simp only[eo.1,decide_true,Bool.and_true]
   rw[ek,ev]
  all_goals (rw[ha] at h;injection h with _ h;injection h with _ h;injection h with _ h;cases h)
 by_cases h3:1<(b::l).length/\isS ((b::l).take 2)=true
 ·have e0:nxI (b::l)=(4,0,(b::l).take 2,true):=by
   show (if lt8 b then _ else _)=_
   rw[if_neg h1,if_neg h2,if_pos h3]
  rw[e0] at h
  injection h with ek h
  injection h with ev h
  injection h with et eo
  cases l with
  | nil=>simp at h3
  | cons c l =>
   have htt:t=[b,c]:=et.symm
   subst htt
   refine⟨[c],rfl,?_⟩
   show (if lt8 b then _ else _)=_
   rw[if_neg h1,if_neg h2,if_pos ⟨by simp,h3.2⟩,<- ek,<- ev]
   rfl
 have e0:nxI (b::l)=(4,0,(b::l).take 1,isS ((b::l).take 1)):=by
  show (if lt8 b then _ else _)=_
  rw[if_neg h1,if_neg h2,if_neg h3]
 rw[e0] at h
 injection h with ek h
 injection h with ev h
 injection h with et eo
 have htt:t=[b]:=et.symm
 subst htt
 refine⟨[],rfl,?_⟩
 show (if lt8 b then _ else _)=_
 rw[if_neg h1,if_neg h2,if_neg (show ¬ (1<([b]++r).length/\isS (([b]++r).take 2)=true) from xjy (b:=b) hr),<- ek,<- ev]
 show (4,0,[b],isS [b])=_
 rw[show isS [b]=true from eo]
theorem Uf.step {x:Tk} (h:Uf x) (r:Bt) (hr:Ax r) (acc:List Tk) (ln:Int):scF acc (x.t++r) ln=scF (acc++[{ x with n:=ln }]) r ln:=by
 obtain⟨ln0,b,l,hst⟩:=h
 obtain⟨h1,h2,h3,h4,h5,_⟩:=Uy hst
 obtain⟨tt,htt,hn⟩:=Iq h5 r hr
 rw[htt,List.cons_append] at hn
 have hs:=Sv (ln:=ln) h1 h2 h3 h4 hn
 rw[htt,List.cons_append,Dp hs]
 show scF (acc++[⟨x.k,ln,x.v,b::tt⟩]) ((b::(tt++r)).drop (b::tt).length) ln=_
 rw[<- List.cons_append,List.drop_left]
theorem Uf.pos {x:Tk} (h:Uf x):1<=x.t.length:=by
 obtain⟨ln0,b,l,hst⟩:=h
 obtain⟨_,_,_,_,h5,_⟩:=Uy hst
 have:=Gb (b:=b) (r:=l) (by rw[h5])
 rw[h5] at this
 exact this
def Vc (c:Nat):List Tk->Nat
 | []=>0
 | x::l=>x.t.length+c+Vc c l
theorem Fw:∀ (n:Nat) (acc:List Tk) (l:Bt) (ln:Int) (ts:List Tk) (y:Int),l.length<=n->scF acc l ln=(some ts,y) ->
  ∃ ys ln2,ts=acc++(ys++[⟨0,ln2,0,[]⟩])/\y=0/\(∀ x∈ys,Uf x)/\Vc 0 ys<=l.length:=by
 intro n
 induction n with
 | zero =>
  intro acc l ln ts y hn h
  have:l=[]:=List.length_eq_zero_iff.1 (by omega)
  subst this
  rw[Dg] at h
  injection h with h1 h2
  injection h1 with h1
  exact⟨[],ln,by rw[<- h1];rfl,h2.symm,by simp,by simp[Vc]⟩
 | succ n ih =>
  intro acc l ln ts y hn h
  cases l with
  | nil =>
   rw[Dg] at h
   injection h with h1 h2
   injection h1 with h1
   exact⟨[],ln,by rw[<- h1];rfl,h2.symm,by simp,by simp[Vc]⟩
  | cons b r =>
   simp only[List.length_cons] at hn
   cases hst:Yy ln b r with
   | skip k d =>
    have hk:=Vt hst
    rw[Kz hst] at h
    have hl:((b::r).drop k).length<=n:=by rw[List.length_drop,List.length_cons];omega
    obtain⟨ys,ln2,e1,e2,e3,e4⟩:=ih _ _ _ _ _ hl h
    exact⟨ys,ln2,e1,e2,e3,by rw[List.length_drop] at e4;omega⟩
   | tok x =>
    have hok:Uf x:=⟨_,_,_,hst⟩
    have hk:=hok.pos
    have hle:=Ij (b::r)
    rw[(Uy hst).2.2.2.2.1] at hle
    dsimp only at hle
    rw[Dp hst] at h
    have hl:((b::r).drop x.t.length).length<=n:=by rw[List.length_drop,List.length_cons];omega
    obtain⟨ys,ln2,e1,e2,e3,e4⟩:=ih _ _ _ _ _ hl h
    refine⟨x::ys,ln2,by rw[e1];simp,e2,?_,?_⟩
    ·intro z hz
     rw[List.mem_cons] at hz
     rcases hz with rfl|hz
     ·exact hok
     exact e3 z hz
    rw[List.length_drop] at e4
    simp only[Vc]
    omega
   | bad=>rw[xjp hst] at h;cases h
theorem Hn {l:Bt} {ts:List Tk} {y:Int} (h:scan l=(some ts,y)):∃ ys ln2,ts=ys++[⟨0,ln2,0,[]⟩]/\y=0/\(∀ x∈ys,Uf x)/\Vc 0 ys<=l.length:=by
 obtain⟨ys,ln2,e1,e2⟩:=Fw l.length [] l 1 ts y (Nat.le_refl _) h
 exact⟨ys,ln2,by simpa using e1,e2⟩
def unl (l:List Tk):List (Int×Int×Bt):=l.map λ x=>(x.k,x.v,x.t)
theorem Pl (acc:List Tk) (r:Bt) (ln:Int):scF acc (32::r) ln=scF acc r ln:=by
 have hs:Yy ln 32 r=.skip 1 0:=by unfold Yy;rw[if_neg (by decide),if_pos (.inl (by decide))]
 rw[Kz hs,Int.add_zero]
 rfl
theorem xzp (acc:List Tk) (r:Bt) (ln:Int):scF acc (9::r) ln=scF acc r ln:=by
 have hs:Yy ln 9 r=.skip 1 0:=by unfold Yy;rw[if_neg (by decide),if_pos (.inr (by decide))]
 rw[Kz hs,Int.add_zero]
 rfl
theorem Dm (acc:List Tk) (r:Bt) (ln:Int):scF acc (10::r) ln=scF acc r (ln+1):=by
 have hs:Yy ln 10 r=.skip 1 1:=by unfold Yy;rw[if_pos (by decide)]
 rw[Kz hs]
 rfl
inductive Gap where
 | note
 | two
 | tab
def Gap.bt:Gap->Bt
 | .note=>[32,35,32,97,32,99,111,109,109,101,110,116,59,32,120,32,61,32,49,10]
 | .two=>[10,10]
 | .tab=>[9,32]
def Gap.ln:Gap->Int
 | .note=>1
 | .two=>2
 | .tab=>0
theorem Gap.sep (g:Gap) (r:Bt):Ax (g.bt++r):=by
 cases g<;>(intro c r2 e;injection e with e _;subst e;simp[Gap.bt])
theorem Gap.len (g:Gap):g.bt.length<=20:=by cases g<;>decide
theorem Gap.skip (g:Gap) (acc:List Tk) (r:Bt) (ln:Int):scF acc (g.bt++r) ln=scF acc r (ln+g.ln):=by
 cases g
 ·show scF acc (32::35::([32,97,32,99,111,109,109,101,110,116,59,32,120,32,61,32,49]++(10::r))) ln=_
  rw[Pl]
  have hzj:run nl8 (35::([32,97,32,99,111,109,109,101,110,116,59,32,120,32,61,32,49]++(10::r)))=[35,32,97,32,99,111,109,109,101,110,116,59,32,120,32,61,32,49]:=by
   rw[<- List.cons_append,Vp (by decide),Ub (by intro c r2 e;injection e with e _;subst e;decide),List.append_nil]
  have hs:Yy ln 35 ([32,97,32,99,111,109,109,101,110,116,59,32,120,32,61,32,49]++(10::r))=.skip 18 0:=by
   unfold Yy
   rw[if_neg (by decide),if_neg (by decide),if_pos (by decide),hzj]
   rfl
  rw[Kz hs,Int.add_zero]
  show scF acc (10::r) ln=_
  rw[Dm]
  rfl
 ·show scF acc (10::10::r) ln=_
  rw[Dm,Dm,Int.add_assoc]
  rfl
 show scF acc (9::32::r) ln=_
 rw[xzp,Pl]
 show _=scF acc r (ln+0)
 rw[Int.add_zero]
end
abbrev Qw (ls:List Bt):List Value:=ls.map (λ l=>Value.string (st l))
theorem Ct (ls:List Bt) (j:Nat) (h:j<ls.length):(Qw ls)[j]?=some (.string (st (ls.getD j []))):=by simp[List.getD,h]
theorem xjv (ls:List Bt) (j:Nat) (h:j<ls.length):Qw ls≠[]:=by
 intro e;have:=congrArg List.length e;simp at this;subst this;simp at h
theorem Yd.str {w:World} {a:Option Addr} {ls:List Bt} (h:Yd w a (Qw ls)) (j:Nat) (hj:j<ls.length) :
  ∃ b off,a=some ⟨b,off,none⟩/\b<w.heap.size/\∀ i,i<ls.length->w.cell? ⟨b,off+i,none⟩=some (.string (st (ls.getD i []))):=by
 obtain⟨b,off,e,hb,hc⟩:=h (xjv ls j hj)
 exact⟨b,off,e,hb,λ i hi=>hc i _ (Ct ls i hi)⟩
theorem Md {ls:List Bt} {s:Bt} {k:Nat} (hk:k<ls.length) (h:ls.getD k []=s):ls.contains s=true:=by
 have e:ls[k]=s:=by simpa [List.getD,hk] using h
 simp only[List.contains_iff_mem]
 exact e▸List.getElem_mem hk
theorem Hf {ls:List Bt} {s:Bt} (h:∀ j,j<ls.length->ls.getD j []≠s):ls.contains s=false:=by
 cases hc:ls.contains s
 ·rfl
 rw[List.contains_iff_mem] at hc
 obtain⟨j,hj,e⟩:=List.getElem_of_mem hc
 exact absurd (by simpa [List.getD,hj] using e) (h j hj)
theorem Yd.fresh (w:World) (xs:List Value) (t:TypeId):Yd (w.alloc (.cells xs.toArray t)) (some ⟨w.heap.size,0,none⟩) xs:=by
 intro _
 refine⟨w.heap.size,0,rfl,by simp,λ j u hj=>?_⟩
 rw[Nat.zero_add,World.cell?_alloc_new]
 simpa using hj
theorem Xw (w:World) (o:Obj):Below w.heap.size w (w.alloc o):=(Below.refl _ _).alloc (Nat.le_refl _) _
def Vn (a:Nat) (l:Bt):Nat:=l.foldl (λ a c=>10*a+(c.toNat-48)) a
def Qh (l:Bt):Nat:=Vn 0 l
theorem Gh (a:Nat):Vn a []=a:=rfl
theorem Kl (a:Nat) (c:UInt8) (l:Bt):Vn a (c::l)=Vn (10*a+(c.toNat-48)) l:=by unfold Vn;simp only[List.foldl_cons]
theorem Ez (a:Nat) (l:Bt) (c:UInt8):Vn a (l++[c])=10*Vn a l+(c.toNat-48):=by unfold Vn;simp only[List.foldl_append,List.foldl_cons,List.foldl_nil]
theorem Dt (a:Nat) (l:Bt):a<=Vn a l:=by
 induction l generalizing a with
 | nil=>exact Nat.le_refl _
 | cons c l ih =>
  rw[Kl]
  exact Nat.le_trans (show a<=10*a+(c.toNat-48) by omega) (ih _)
theorem Ds (l:Bt) (k:Nat):Qh (l.take k)<=Qh l:=by
 have h:Qh l=Vn (Qh (l.take k)) (l.drop k):=by
  unfold Qh Vn
  rw[<- List.foldl_append,List.take_append_drop]
 rw[h];exact Dt _ _
theorem Gd (l:Bt) (k:Nat) (c:UInt8) (h:l[k]?=some c):Qh (l.take (k+1))=10*Qh (l.take k)+(c.toNat-48):=by
 have:l.take (k+1)=l.take k++[c]:=by rw[List.take_add_one,h];rfl
 rw[this];exact Ez _ _ _
def Gs (l:Bt):Prop:=∀ c∈l,48<=c.toNat/\c.toNat<=57
theorem Rq (l:Bt) (a:Nat) (hd:Gs l):Lib.parseUint10 a l=if Vn a l<18446744073709551616\/l=[] then .ok (Vn a l) else .range:=by
 induction l generalizing a with
 | nil=>simp[Lib.parseUint10,Gh]
 | cons c l ih =>
  have hc:=hd c (by simp)
  have hl:Gs l:=λ x hx=>hd x (by simp[hx])
  rw[Lib.parseUint10,if_pos hc,Kl]
  have e:a*10+(c.toNat-48)=10*a+(c.toNat-48):=by omega
  have g:=Dt (10*a+(c.toNat-48)) l
  rw[e]
  by_cases h1:1844674407370955162<=a
  ·rw[if_pos h1,if_neg (by simp;omega)]
  rw[if_neg h1]
  by_cases h2:18446744073709551616<=10*a+(c.toNat-48)
  ·rw[if_pos h2,if_neg (by simp;omega)]
  rw[if_neg h2,ih _ hl]
  by_cases h3:l=[]
  ·subst h3;simp[Gh];omega
  simp[h3]
theorem Mt (l:Bt) (hd:Gs l) (hne:l≠[]):Lib.atoiAll l=if Qh l<9223372036854775808 then .ok (Qh l:Int) else .range:=by
 cases l with
 | nil=>exact absurd rfl hne
 | cons c r =>
  have hc:=hd c (by simp)
  rw[Lib.atoiAll_plain c r (by omega) (by omega)]
  unfold Lib.parseMag
  rw[if_neg (by simp),Rq _ _ hd,<- show Qh (c::r)=Vn 0 (c::r) from rfl]
  by_cases h:Qh (c::r)<18446744073709551616
  ·rw[if_pos (Or.inl h)]
   unfold Lib.signless
   by_cases h2:Qh (c::r)<9223372036854775808
   ·rw[if_pos h2];simp only;rw[if_neg (by omega)]
   rw[if_neg h2];simp only;rw[if_pos (by omega)]
  rw[if_neg (λ e=>e.elim h (λ e=>by cases e)),if_neg (by omega)];rfl
theorem Lh (c:UInt8) (r:Bt) (h:49<=c.toNat):1<=Qh (c::r):=by
 have:=Dt (10*0+(c.toNat-48)) r
 show 1<=Vn 0 (c::r)
 rw[Kl];omega
theorem Ft (c:UInt8) (h:48<=c.toNat):UInt8.ofNat (48+(c.toNat-48))=c:=by
 rw[show 48+(c.toNat-48)=c.toNat by omega]
 exact UInt8.ofNat_toNat
theorem Hc (l:Bt):Gs l->∀ (c:UInt8) (r:Bt),l=c::r->(49<=c.toNat\/r=[])->Lib.decDigits (Qh l)=l:=by
 have key:∀ (n:Nat) (l:Bt),l.length=n->Gs l->∀ (c:UInt8) (r:Bt),l=c::r->(49<=c.toNat\/r=[])->Lib.decDigits (Qh l)=l:=by
  intro n
  induction n with
  | zero=>intro l hl _ c r e;subst e;simp at hl
  | succ n ih =>
   intro l hl hd c r e hz
   rcases List.eq_nil_or_concat l with rfl|⟨l',x,rfl⟩
   ·cases e
   rw[List.concat_eq_append] at *
   have hx:=hd x (by simp)
   have e2:Qh (l'++[x])=10*Qh l'+(x.toNat-48):=Ez _ _ _
   cases l' with
   | nil =>
    rw[e2]
    show Lib.decDigits (10*0+(x.toNat-48))=[x]
    rw[Lib.decDigits,dif_pos (by omega),Nat.mul_zero,Nat.zero_add,Ft x hx.1]
   | cons c' r' =>
    have hh:c'=c/\r'++[x]=r:=by simpa using e
    obtain⟨rfl,rfl⟩:=hh
    have h49:49<=c'.toNat:=hz.resolve_right (by simp)
    have hp:=Lh c' r' h49
    have h3:=ih (c'::r') (by simp at hl;simp;omega) (λ y hy=>hd y (List.mem_append_left _ hy)) c' r' rfl (.inl h49)
    rw[e2,Lib.decDigits,dif_neg (by omega)]
    rw[show (10*Qh (c'::r')+(x.toNat-48))/10=Qh (c'::r') by omega,h3,show (10*Qh (c'::r')+(x.toNat-48))%10=x.toNat-48 by omega,Ft x hx.1]
 exact key _ l rfl
theorem Gl (u:Nat):1<=u->∃ c r,Lib.decDigits u=c::r/\49<=c.toNat:=by
 induction u using Nat.strongRecOn with
 | _ u ih =>
  intro h1
  by_cases h:u<10
  ·refine⟨_,[],Lib.decDigits_one h,?_⟩
   rw[UInt8.toNat_ofNat'];omega
  obtain⟨c,r,e,hc⟩:=ih (u/10) (by omega) (by omega)
  refine⟨c,r++[UInt8.ofNat (48+u%10)],?_,hc⟩
  rw[Lib.decDigits,dif_neg h,e];rfl
theorem Iu (c:UInt8) (r:Bt) (hd:Gs (c::r)):(Lib.itoa (Qh (c::r):Int)==c::r)=decide (49<=c.toNat\/r=[]):=by
 have hc:=hd c (by simp)
 rw[Lib.itoa_nonneg]
 by_cases h:49<=c.toNat\/r=[]
 ·rw[Hc _ hd c r rfl h];simp[h]
 rw[decide_eq_false h,beq_eq_false_iff_ne]
 intro e
 by_cases h0:Qh (c::r)=0
 ·rw[h0,Lib.decDigits_one (by omega)] at e
  have:=congrArg List.length e
  simp at this
  exact h (.inr (by simpa using this))
 obtain⟨c',r',e',hc'⟩:=Gl (Qh (c::r)) (by omega)
 rw[e'] at e
 injection e with e1 e2
 subst e1
 exact h (.inl hc')
structure Hd where
 k:Int
 op:Int
 v:Int
 ln:Int
 nm:Bt
inductive Fo where
 | nil
 | cons (h:Hd) (ar r:Fo)
namespace Fo
def len:Fo->Nat
 | .nil=>0
 | .cons _ _ r=>r.len+1
def app:Fo->Fo->Fo
 | .nil,G=>G
 | .cons h ar r,G=>.cons h ar (r.app G)
def get:Fo->Nat->Option (Hd×Fo)
 | .nil,_=>none
 | .cons h ar _,0=>some (h,ar)
 | .cons _ _ r,i+1=>r.get i
theorem len_app (F G:Fo):(F.app G).len=F.len+G.len:=by
 induction F with
 | nil=>simp[app,len]
 | cons h ar r _ ih=>simp only[app,len];omega
theorem get_lt {F:Fo} {i:Nat} (h:i<F.len):∃ x,F.get i=some x:=by
 induction F generalizing i with
 | nil=>simp[len] at h
 | cons hd ar r _ ih =>
  cases i with
  | zero=>exact⟨_,rfl⟩
  | succ i=>exact ih (by simp only[len] at h;omega)
end Fo
abbrev Xb (h:Hd) (ar:Fo):Fo:=.cons h ar .nil
inductive Sf where
 | nil
 | cons (k ln:Int) (nm:Bt) (xs:Fo) (th el r:Sf)
namespace Sf
def len:Sf->Nat
 | .nil=>0
 | .cons _ _ _ _ _ _ r=>r.len+1
def app:Sf->Sf->Sf
 | .nil,G=>G
 | .cons k ln nm xs th el r,G=>.cons k ln nm xs th el (r.app G)
theorem len_app (F G:Sf):(F.app G).len=F.len+G.len:=by
 induction F with
 | nil=>simp[app,len]
 | cons k ln nm xs th el r _ _ ih=>simp only[app,len];omega
end Sf
def okN (nm:Bt):Prop:=∃ b r,nm=b::r/\lt8 b=true/\(∀ c∈r,in8 c=true)/\isW nm=false/\nm.length<=4
def okH (h:Hd) (ar:Fo):Prop :=
 h.op=0/\h.v=0/\((h.k=13/\okN h.nm/\ar=.nil)\/(h.k=12/\h.nm=[]/\ar=.nil)\/(h.k=11/\okN h.nm/\ar=.nil)\/(h.k=4/\okN h.nm/\ar.len=1) \/
  ((h.k=7\/h.k=8)/\h.nm=[]/\ar.len=2)\/(h.k=9/\okN h.nm/\ar.len<=2)\/(h.k=10/\h.nm=[]/\∃ g bs r,ar=.cons g bs r/\g.k≠13/\r.len<=2)) \/
 (h.op=0/\h.k=1/\h.nm=[]/\0<=h.v/\h.v<=9223372036854775807/\ar=.nil) \/
 (h.v=0/\h.nm=[]/\((h.k=5/\1<=h.op/\h.op<=2/\ar.len=1)\/(h.k=6/\3<=h.op/\h.op<=11/\ar.len=2)))
def Fo.wf:Fo->Prop
 | .nil=>True
 | .cons h ar r=>okH h ar/\h.ln=0/\ar.wf/\r.wf
def own (h:Hd) (n:Nat):Nat :=
 if h.k=1 then 39 else if h.k=13 then 24 else if h.k=12 then 24 else if h.k=11 then 45 else 111
def Fo.cst:Fo->Nat
 | .nil=>0
 | .cons h ar r=>own h ar.len+ar.cst+r.cst
def Fo.dep:Fo->Nat
 | .nil=>0
 | .cons h ar r=>max (ar.dep+1) r.dep
theorem Fo.wf_app {F G:Fo} (h:F.wf) (k:G.wf):(F.app G).wf:=by
 induction F with
 | nil=>exact k
 | cons hd ar r _ ih=>exact⟨h.1,h.2.1,h.2.2.1,ih h.2.2.2⟩
theorem Fo.cst_app (F G:Fo):(F.app G).cst=F.cst+G.cst:=by
 induction F with
 | nil=>simp[app,cst]
 | cons hd ar r _ ih=>simp only[app,cst];omega
theorem Fo.dep_app (F G:Fo):(F.app G).dep=max F.dep G.dep:=by
 induction F with
 | nil=>simp[app,dep]
 | cons hd ar r _ ih=>simp only[app,dep,ih];omega
def bnd:Nat->Nat
 | 0=>45
 | d+1=>3*bnd d+111
theorem Ox (d:Nat):bnd d<=bnd (d+1):=by show _<=3*bnd d+111;omega
theorem xxl (d:Nat):45<=bnd d:=by
 induction d with
 | zero=>exact Nat.le_refl _
 | succ d ih=>exact Nat.le_trans ih (Ox d)
def Zd (d:Nat) (h:Hd) (ar:Fo):Prop:=okH h ar/\h.ln=0/\ar.wf/\own h ar.len+ar.cst<=bnd d/\ar.dep<=d
theorem Zd.leaf {h:Hd} {ar:Fo} (h1:okH h ar) (hl:h.ln=0) (ha:ar=.nil) (hk:h.k=1\/h.k=13\/h.k=12\/h.k=11) (d:Nat):Zd d h ar:=by
 subst ha
 refine⟨h1,hl,trivial,?_,Nat.zero_le _⟩
 have:=xxl d
 have:own h 0<=45:=by unfold own;split;omega;split;omega;split;omega;split;omega;omega
 simp only[Fo.len,Fo.cst];omega
def Qv (d:Nat) (F:Fo):Prop:=F.wf/\F.cst<=F.len*bnd d/\F.dep<=d+1
theorem Qv.nil (d:Nat):Qv d .nil:=⟨trivial,by simp[Fo.cst],Nat.zero_le _⟩
theorem Qv.snoc {d:Nat} {F:Fo} {h:Hd} {ar:Fo} (hF:Qv d F) (hE:Zd d h ar):Qv d (F.app (Xb h ar)):=by
 refine⟨Fo.wf_app hF.1 ⟨hE.1,hE.2.1,hE.2.2.1,trivial⟩,?_,?_⟩
 ·rw[Fo.cst_app,Fo.len_app]
  have h1:=hF.2.1
  have h2:=hE.2.2.2.1
  show _+(own h ar.len+ar.cst+0)<=(_+1)*_
  rw[Nat.add_mul];omega
 rw[Fo.dep_app]
 have h1:=hF.2.2
 have h2:=hE.2.2.2.2
 show max _ (max (ar.dep+1) 0)<=_
 omega
theorem Qv.cons {d:Nat} {F:Fo} {h:Hd} {ar:Fo} (hF:Qv d F) (hE:Zd d h ar):Qv d (.cons h ar F):=by
 refine⟨⟨hE.1,hE.2.1,hE.2.2.1,hF.1⟩,?_,?_⟩
 ·have h1:=hF.2.1
  have h2:=hE.2.2.2.1
  show own h ar.len+ar.cst+F.cst<=(F.len+1)*_
  rw[Nat.add_mul];omega
 have h1:=hF.2.2
 have h2:=hE.2.2.2.2
 show max (ar.dep+1) _<=_
 omega
theorem Zd.up {d:Nat} {h:Hd} {ar:Fo} (h1:okH h ar) (hl:h.ln=0) (hF:Qv d ar) (h3:ar.len<=3):Zd (d+1) h ar:=by
 refine⟨h1,hl,hF.1,?_,hF.2.2⟩
 have h2:=hF.2.1
 have:own h ar.len<=111:=by unfold own;split;omega;split;omega;split;omega;split;omega;omega
 have:ar.len*bnd d<=3*bnd d:=Nat.mul_le_mul_right _ h3
 show _<=3*bnd d+111
 omega
theorem Zd.mono {d:Nat} {h:Hd} {ar:Fo} (hE:Zd d h ar):Zd (d+1) h ar :=
 ⟨hE.1,hE.2.1,hE.2.2.1,Nat.le_trans hE.2.2.2.1 (Ox d),by have:=hE.2.2.2.2;omega⟩
abbrev hdc (h:Hd) (sl:Value):List Value:=[.int .i64 h.k,.int .i64 h.op,.int .i64 h.v,.int .i64 h.ln,.string (st h.nm),sl]
abbrev exv (h:Hd) (sl:Value):Value:=.agg #[.int .i64 h.k,.int .i64 h.op,.int .i64 h.v,.int .i64 h.ln,.string (st h.nm),sl]
def Wj (w:World) (P:Nat->Prop) (a:Option Addr) (xs:List Value):Prop :=
 xs≠[]->∃ b off,a=some ⟨b,off,none⟩/\P b/\b<w.heap.size/\∀ j u,xs[j]?=some u->w.cell? ⟨b,off+j,none⟩=some u
theorem Wj.keep {w w':World} {P Q:Nat->Prop} {a:Option Addr} {xs:List Value} (h:Wj w P a xs) (hk:∀ b,P b->b<w.heap.size->w'.heap[b]?=w.heap[b]?/\Q b) (hs:w.heap.size<=w'.heap.size):Wj w' Q a xs:=λ hx=>by
 obtain⟨b,off,e,hp,hb,hc⟩:=h hx
 exact⟨b,off,e,(hk b hp hb).2,by omega,λ j u hj=>(World.cell?_of_block (w:=w) (a:=⟨b,off+j,none⟩) (hk b hp hb).1).trans (hc j u hj)⟩
theorem Wj.cells {w:World} {P:Nat->Prop} {a:Option Addr} {xs:List Value} (h:Wj w P a xs):Yd w a xs:=λ hx=>by
 obtain⟨b,off,e,_,hb,hc⟩:=h hx
 exact⟨b,off,e,hb,hc⟩
def Zb (w:World) (P:Nat->Prop):Fo->List Value->Prop
 | .nil,cs=>cs=[]
 | .cons h ar r,cs=>∃ a cap rws cs',cs=hdc h (.slice a ar.len cap)++cs'/\ar.len<=cap/\cap<=maxLen/\(a=none->cap=0)/\Wj w P a rws/\Zb w P ar rws/\Zb w P r cs'
theorem Zb.len {w:World} {P:Nat->Prop} {F:Fo} {cs:List Value} (h:Zb w P F cs):cs.length=F.len*6:=by
 induction F generalizing cs with
 | nil=>rw[show cs=[] from h];rfl
 | cons hd ar r _ ih =>
  obtain⟨a,cap,rws,cs',rfl,_,_,_,_,_,h2⟩:=h
  rw[List.length_append,ih h2]
  show 6+_=(_+1)*6
  omega
theorem Zb.keep {w w':World} {P Q:Nat->Prop} {F:Fo} {cs:List Value} (h:Zb w P F cs) (hk:∀ b,P b->b<w.heap.size->w'.heap[b]?=w.heap[b]?/\Q b) (hs:w.heap.size<=w'.heap.size):Zb w' Q F cs:=by
 induction F generalizing cs with
 | nil=>exact h
 | cons hd ar r ih1 ih2 =>
  obtain⟨a,cap,rws,cs',rfl,h1,h2,h3,h4,h5,h6⟩:=h
  exact⟨a,cap,rws,cs',rfl,h1,h2,h3,h4.keep hk hs,ih1 h5,ih2 h6⟩
theorem Zb.app {w:World} {P:Nat->Prop} {F G:Fo} {cs ds:List Value} (h:Zb w P F cs) (k:Zb w P G ds):Zb w P (F.app G) (cs++ds):=by
 induction F generalizing cs with
 | nil=>rw[show cs=[] from h];exact k
 | cons hd ar r _ ih =>
  obtain⟨a,cap,rws,cs',rfl,h1,h2,h3,h4,h5,h6⟩:=h
  exact⟨a,cap,rws,cs'++ds,by rw[List.append_assoc],h1,h2,h3,h4,h5,ih h6⟩
theorem Zb.oneCell {w:World} {P:Nat->Prop} {F:Fo} {cs:List Value} (h:Zb w P F cs):∀ u∈cs,u.oneCell'=true:=by
 induction F generalizing cs with
 | nil=>rw[show cs=[] from h];intro u hu;cases hu
 | cons hd ar r _ ih =>
  obtain⟨a,cap,rws,cs',rfl,_,_,_,_,_,h6⟩:=h
  intro u hu
  rw[List.mem_append] at hu
  rcases hu with hu|hu
  ·simp at hu
   rcases hu with rfl|rfl|rfl|rfl|rfl|rfl<;>rfl
  exact ih h6 u hu
def Xk (w:World) (P:Nat->Prop) (ar:Fo) (sl:Value):Prop :=
 ∃ a cap rws,sl=.slice a ar.len cap/\ar.len<=cap/\cap<=maxLen/\(a=none->cap=0)/\Wj w P a rws/\Zb w P ar rws
theorem Xk.nil (w:World) (P:Nat->Prop):Xk w P .nil (.slice none 0 0):=⟨none,0,[],rfl,Nat.le_refl _,by simp[maxLen],λ _=>rfl,λ h=>absurd rfl h,rfl⟩
theorem Xk.keep {w w':World} {P Q:Nat->Prop} {F:Fo} {sl:Value} (h:Xk w P F sl) (hk:∀ b,P b->b<w.heap.size->w'.heap[b]?=w.heap[b]?/\Q b) (hs:w.heap.size<=w'.heap.size):Xk w' Q F sl:=by
 obtain⟨a,cap,rws,e,h1,h2,h3,h4,h5⟩:=h
 exact⟨a,cap,rws,e,h1,h2,h3,h4.keep hk hs,h5.keep hk hs⟩
theorem Xk.one {w:World} {P:Nat->Prop} {h:Hd} {ar:Fo} {sl:Value} (k:Xk w P ar sl):Zb w P (Xb h ar) (hdc h sl):=by
 obtain⟨a,cap,rws,rfl,h1,h2,h3,h4,h5⟩:=k
 exact⟨a,cap,rws,[],by simp,h1,h2,h3,h4,h5,rfl⟩
theorem Xk.of_own {w:World} {base e size:Nat} {P:Nat->Prop} {F:Fo} {v:Value} {xs:List Value} (h:w.ownsRow base e 6 v F.len xs) (hF:Zb w P F xs) (hP:∀ b,v.ownBlock=some b->P b):Xk w P F v:=by
 obtain⟨a,cap,rfl,h1,h2,h3,h4,_⟩:=Yd.of_own h
 refine⟨a,cap,xs,rfl,h2,h3,Wh h,λ hx=>?_,hF⟩
 obtain⟨b,off,e,hb,hc⟩:=h4 hx
 exact⟨b,off,e,hP b (by rw[e];rfl),hb,hc⟩
def glc (gs:List (Bt×Int)):List Value:=gs.flatMap λ g=>[.string (st g.1),.int .i64 g.2]
structure Fr where
 nm:Bt
 pa:Option Addr
 pn:Nat
 pc:Nat
 ba:Option Addr
 bn:Nat
 bc:Nat
def frc (fs:List Fr):List Value:=fs.flatMap λ f=>[.string (st f.nm),.int .i64 0,.slice f.pa f.pn f.pc,.slice f.ba f.bn f.bc]
theorem xqv (l:List (Bt×Int)):(glc l).length=l.length*2:=by
 induction l with
 | nil=>rfl
 | cons s l ih=>unfold glc at ih ⊢;rw[List.flatMap_cons,List.length_append,ih];show 2+_=(l.length+1)*2;omega
theorem xqy (l:List Fr):(frc l).length=l.length*4:=by
 induction l with
 | nil=>rfl
 | cons s l ih=>unfold frc at ih ⊢;rw[List.flatMap_cons,List.length_append,ih];show 4+_=(l.length+1)*4;omega
theorem xqw (l:List (Bt×Int)) (j:Nat) (s:Bt×Int) (h:l[j]?=some s):(glc l)[j*2]?=some (.string (st s.1))/\(glc l)[j*2+1]?=some (.int .i64 s.2):=by
 induction l generalizing j with
 | nil=>simp at h
 | cons x l ih =>
  cases j with
  | zero=>simp at h;subst h;exact⟨rfl,rfl⟩
  | succ j =>
   have:=ih j (by simpa using h)
   have e1:(j+1)*2=j*2+1+1:=by omega
   rw[e1]
   exact this
theorem xqu (l:List Fr) (j:Nat) (s:Fr) (h:l[j]?=some s):(frc l)[j*4]?=some (.string (st s.nm))/\(frc l)[j*4+1]?=some (.int .i64 0)/\(frc l)[j*4+2]?=some (.slice s.pa s.pn s.pc)/\(frc l)[j*4+3]?=some (.slice s.ba s.bn s.bc):=by
 induction l generalizing j with
 | nil=>simp at h
 | cons x l ih =>
  cases j with
  | zero=>simp at h;subst h;exact⟨rfl,rfl,rfl,rfl⟩
  | succ j =>
   have:=ih j (by simpa using h)
   have e1:(j+1)*4=j*4+1+1+1+1:=by omega
   rw[e1]
   exact this
structure Mk where
 va:Value
 vb:Value
 vl:Value
 gs:List (Bt×Int)
 fs:List Fr
 ls:List Bt
 bud:Int
structure Yg (w:World) (gc gm:Nat) (M:Mk):Prop where
 cod:Cod w gc
 lt:gc<gm
 row:w.heap[gm]?=some (.cells #[.pointer (some ⟨gc,0,none⟩),M.va,M.vb,M.vl,.int .i64 M.bud] 58 (0,0))
 gl:w.ownsRow (gm+1) 60 2 M.va M.gs.length (glc M.gs)
 fn:w.ownsRow (gm+1) 63 4 M.vb M.fs.length (frc M.fs)
 lo:w.ownsRow (gm+1) 9 1 M.vl M.ls.length (Qw M.ls)
 gok:∀ g∈M.gs,okN g.1/\0<=g.2/\g.2<=5
 fok:∀ f∈M.fs,okN f.nm/\f.pn<=2
 lok:∀ l∈M.ls,okN l
 gn:M.gs.length<=4
 fn1:1<=M.fs.length
 fn2:M.fs.length<=4
 ln:M.ls.length<=10
theorem Yx {w w':World} {base e k n:Nat} {v:Value} {l:List Value} {g:Nat} (h:w.ownsRow base e k v n l) (hg:w.grownBy w' (some g)) (hgb:g<base):w'.ownsRow base e k v n l :=
 h.kept hg (by cases hq:v.ownBlock with|none=>exact .inl rfl|some k=>exact .inr (λ e=>by have:=(h.lt k hq).1;injection e with e;omega))
theorem Yg.grown {w w':World} {gc gm:Nat} {M:Mk} (h:Yg w gc gm M) (hg:w.grownBy w' (some gc)) (hc:Cod w' gc):Yg w' gc gm M :=
 {h with
  cod:=hc
  row:=(hg.block gm (Xv h.row) (λ e=>by injection e with e;have:=h.lt;omega)).trans h.row
  gl:=Yx h.gl hg (by have:=h.lt;omega)
  fn:=Yx h.fn hg (by have:=h.lt;omega)
  lo:=Yx h.lo hg (by have:=h.lt;omega) }
theorem Yg.below {w w':World} {gc gm:Nat} {M:Mk} (h:Yg w gc gm M) (hb:Below w.heap.size w w'):Yg w' gc gm M :=
 h.grown (Xm hb _) (h.cod.below hb h.cod.lt)
theorem Yg.lt2 {w:World} {gc gm:Nat} {M:Mk} (h:Yg w gc gm M):gc<gm/\gm<w.heap.size:=⟨h.lt,Xv h.row⟩
def Ut (gc gm d:Nat) (w:World) (e:Ending) (w':World):Prop :=
 ∃ h ar sl,e=.returned (exv h sl)/\Xk w' (λ b=>w.heap.size<=b) ar sl/\Zd d h ar/\Cod w' gc/\w.grownBy w' (some gc)
theorem Xl {w:World} {g:Nat} {v0 v1 v2 v3 v4 v5:Value} {t:TypeId} {fr:Nat×Nat} (h:w.heap[g]?=some (.cells #[v0,v1,v2,v3,v4,v5] t fr)) :
  w.cell? ⟨g,0,none⟩=some v0/\w.cell? ⟨g,1,none⟩=some v1/\w.cell? ⟨g,2,none⟩=some v2/\w.cell? ⟨g,3,none⟩=some v3/\w.cell? ⟨g,4,none⟩=some v4/\w.cell? ⟨g,5,none⟩=some v5 :=
 ⟨cell_of_row w g 0 _ _ _ h,cell_of_row w g 1 _ _ _ h,cell_of_row w g 2 _ _ _ h,cell_of_row w g 3 _ _ _ h,cell_of_row w g 4 _ _ _ h,cell_of_row w g 5 _ _ _ h⟩
def namesL:List Bt:=[[97],[98],[99],[100],[101],[102],[105],[107]]
theorem Ac:∀ l∈namesL,okN l:=by
 intro l hl
 simp[namesL] at hl
 rcases hl with rfl|rfl|rfl|rfl|rfl|rfl|rfl|rfl<;>exact⟨_,_,rfl,by decide,by simp,by decide,by simp⟩
theorem Am (w:World):Calls Tryz.prog 152 #[] w λ e w'=>e=.returned (.slice (some ⟨w.heap.size,0,none⟩) 8 8)/\w'=w.alloc (.cells (Qw namesL).toArray 9):=by
 go_enter Tryz.func152,Tryz.ntmps152
 go_wp2_with fail
 go_ret
 exact⟨rfl,rfl⟩
theorem Qc (k op:Int) (a:Option Addr) (n c:Nat) (w:World):Calls Tryz.prog 154 #[.int .i64 k,.int .i64 op,.slice a n c] w λ e w'=>e=.returned (exv ⟨k,op,0,0,[]⟩ (.slice a n c))/\Below w.heap.size w w':=by
 go_enter Tryz.func154,Tryz.ntmps154
 go_wp2_with fail
 obtain⟨q0,q1,q2,q3,q4,q5⟩:=Xl (heap_alloc_new w (.cells #[.int .i64 k,.int .i64 op,.int .i64 0,.int .i64 0,.string { data := #[] },.slice a n c] 37))
 have hb:Below w.heap.size w (w.alloc (.cells #[.int .i64 k,.int .i64 op,.int .i64 0,.int .i64 0,.string { data := #[] },.slice a n c] 37)):=(Below.refl _ _).alloc (Nat.le_refl _) _
 obtain⟨wn,hwn⟩:∃ wn,w.alloc (.cells #[.int .i64 k,.int .i64 op,.int .i64 0,.int .i64 0,.string { data := #[] },.slice a n c] 37)=wn:=⟨_,rfl⟩
 rw[hwn] at q0 q1 q2 q3 q4 q5 hb ⊢
 refine bodyPost_ret (v:=exv ⟨k,op,0,0,[]⟩ (.slice a n c)) (by simp[results,Tryz.results154,go_sem,q0,q1,q2,q3,q4,q5]) rfl ?_
 exact⟨rfl,hb⟩
theorem Zc (k:Int) (nm:ByteArray) (h:Hd) (a:Option Addr) (n c:Nat) (w:World):Calls Tryz.prog 116 #[.int .i64 k,.string nm,exv h (.slice a n c)] w λ e w'=>∃ g,e=.returned (.agg #[.int .i64 k,.int .i64 0,.string nm,.slice (some ⟨g,0,none⟩) 1 1,.slice none 0 0,.slice none 0 0])/\w.heap.size<=g/\w'.heap[g]?=some (.cells (hdc h (.slice a n c)).toArray 37 (0,0))/\Below w.heap.size w w':=by
 go_enter Tryz.func116,Tryz.ntmps116
 go_wp2_with fail
 have hb1:=(Below.refl w.heap.size w).alloc (Nat.le_refl _) (.cells #[.int .i64 h.k,.int .i64 h.op,.int .i64 h.v,.int .i64 h.ln,.string (st h.nm),.slice a n c] 37)
 obtain⟨w1,hw1⟩:∃ w1,w.alloc (.cells #[.int .i64 h.k,.int .i64 h.op,.int .i64 h.v,.int .i64 h.ln,.string (st h.nm),.slice a n c] 37)=w1:=⟨_,rfl⟩
 have hs1:w1.heap.size=w.heap.size+1:=by rw[<- hw1];simp
 rw[hw1] at hb1 ⊢
 rw[<- hs1]
 have hb2:=hb1.alloc hb1.size (.cells #[.int .i64 k,.int .i64 0,.string nm,.slice (some ⟨w1.heap.size+1,0,none⟩) 1 1,.slice none 0 0,.slice none 0 0] 110)
 have hr:=heap_alloc_new w1 (.cells #[.int .i64 k,.int .i64 0,.string nm,.slice (some ⟨w1.heap.size+1,0,none⟩) 1 1,.slice none 0 0,.slice none 0 0] 110)
 obtain⟨w2,hw2⟩:∃ w2,w1.alloc (.cells #[.int .i64 k,.int .i64 0,.string nm,.slice (some ⟨w1.heap.size+1,0,none⟩) 1 1,.slice none 0 0,.slice none 0 0] 110)=w2:=⟨_,rfl⟩
 have hs2:w2.heap.size=w1.heap.size+1:=by rw[<- hw2];simp
 rw[hw2] at hb2 hr ⊢
 have hb3:=hb2.alloc hb2.size (.cells #[.int .i64 h.k,.int .i64 h.op,.int .i64 h.v,.int .i64 h.ln,.string (st h.nm),.slice a n c] 37)
 have hn:=heap_alloc_new w2 (.cells #[.int .i64 h.k,.int .i64 h.op,.int .i64 h.v,.int .i64 h.ln,.string (st h.nm),.slice a n c] 37)
 have hr3:=(Below.heap_alloc w2 (.cells #[.int .i64 h.k,.int .i64 h.op,.int .i64 h.v,.int .i64 h.ln,.string (st h.nm),.slice a n c] 37) w1.heap.size (Xv hr)).trans hr
 obtain⟨w3,hw3⟩:∃ w3,w2.alloc (.cells #[.int .i64 h.k,.int .i64 h.op,.int .i64 h.v,.int .i64 h.ln,.string (st h.nm),.slice a n c] 37)=w3:=⟨_,rfl⟩
 rw[hw3] at hb3 hn hr3 ⊢
 obtain⟨q0,q1,q2,q3,q4,q5⟩:=Xl hr3
 refine bodyPost_ret (v:=.agg #[.int .i64 k,.int .i64 0,.string nm,.slice (some ⟨w1.heap.size+1,0,none⟩) 1 1,.slice none 0 0,.slice none 0 0]) (by simp[results,Tryz.results116,go_sem,q0,q1,q2,q3,q4,q5]) rfl ?_
 exact⟨w1.heap.size+1,rfl,by omega,by rw[<- hs2];exact hn,hb3⟩
theorem Tryz.infoStr:(Tryz.prog.info? 9).map (λ i=>(i.zero,i.size,i.bytes))=some (some (.string ⟨#[]⟩),1,16):=by kernel_rfl
theorem Tryz.infoExpr:(Tryz.prog.info? 37).map (λ i=>(i.zero,i.size,i.bytes))=some (some (.agg #[.int .i64 0,.int .i64 0,.int .i64 0,.int .i64 0,.string ⟨#[]⟩,.slice none 0 0]),6,72):=by kernel_rfl
theorem Hl (l:List Bt) (x:Bt):Qw l++[.string (st x)]=Qw (l++[x]):=by simp[Qw]
abbrev set6 (w:World) (b:Nat) (v0 v1 v2 v3 v4 v5:Value):World:=(((((w.setCell ⟨b,0,none⟩ v0).setCell ⟨b,1,none⟩ v1).setCell ⟨b,2,none⟩ v2).setCell ⟨b,3,none⟩ v3).setCell ⟨b,4,none⟩ v4).setCell ⟨b,5,none⟩ v5
theorem Qy {w:World} {b:Nat} {u0 u1 u2 u3 u4 u5 v0 v1 v2 v3 v4 v5:Value} {t:TypeId} (h:w.heap[b]?=some (.cells #[u0,u1,u2,u3,u4,u5] t (0,0))):(set6 w b v0 v1 v2 v3 v4 v5).heap[b]?=some (.cells #[v0,v1,v2,v3,v4,v5] t (0,0)) :=
 heap_setCell_same _ b 5 _ _ v5 (heap_setCell_same _ b 4 _ _ v4 (heap_setCell_same _ b 3 _ _ v3 (heap_setCell_same _ b 2 _ _ v2 (heap_setCell_same _ b 1 _ _ v1 (heap_setCell_same _ b 0 _ _ v0 h)))))
theorem Yq {w:World} {b:Nat} {v0 v1 v2 v3 v4 v5:Value} (k:Nat) (h:k≠b):(set6 w b v0 v1 v2 v3 v4 v5).heap[k]?=w.heap[k]? :=
 (heap_setCell_other _ ⟨b,5,none⟩ k v5 h).trans ((heap_setCell_other _ ⟨b,4,none⟩ k v4 h).trans ((heap_setCell_other _ ⟨b,3,none⟩ k v3 h).trans ((heap_setCell_other _ ⟨b,2,none⟩ k v2 h).trans ((heap_setCell_other _ ⟨b,1,none⟩ k v1 h).trans (heap_setCell_other _ ⟨b,0,none⟩ k v0 h)))))
theorem Zz (w:World) (b:Nat) (v0 v1 v2 v3 v4 v5:Value):(set6 w b v0 v1 v2 v3 v4 v5).heap.size=w.heap.size:=by simp[set6,World.setCell]
theorem Yu {w0 w:World} {p:Addr} {row:Option Nat} {v:Value} (h:w0.grownBy w row) (hb:w0.heap.size<=p.block):w0.grownBy (w.setCell p v) row :=
 ⟨h.os,h.tape,h.output,by simp[World.setCell];exact h.size,λ k hk hn=>(heap_setCell_other w p k v (by omega)).trans (h.block k hk hn)⟩
theorem Gp {w0 w:World} {b:Nat} {row:Option Nat} {v0 v1 v2 v3 v4 v5:Value} (h:w0.grownBy w row) (hb:w0.heap.size<=b):w0.grownBy (set6 w b v0 v1 v2 v3 v4 v5) row :=
 Yu (p:=⟨b,5,none⟩) (Yu (p:=⟨b,4,none⟩) (Yu (p:=⟨b,3,none⟩) (Yu (p:=⟨b,2,none⟩) (Yu (p:=⟨b,1,none⟩) (Yu (p:=⟨b,0,none⟩) h hb) hb) hb) hb) hb) hb
theorem Xy {w:World} {b b' o':Nat} {v0 v1 v2 v3 v4 v5 u:Value} (hne:b≠b') (h:w.cell? ⟨b',o',none⟩=some u):(set6 w b v0 v1 v2 v3 v4 v5).cell? ⟨b',o',none⟩=some u :=
 (World.cell?_of_block (a:=⟨b',o',none⟩) (Yq b' (λ e=>hne e.symm))).trans h
abbrev zex:Obj:=.cells #[.int .i64 0,.int .i64 0,.int .i64 0,.int .i64 0,.string { data := #[] },.slice none 0 0] 37 (0,0)
theorem Ex {w:World} {g:Nat} {v0 v1 v2 v3:Value} {t:TypeId} {fr:Nat×Nat} (h:w.heap[g]?=some (.cells #[v0,v1,v2,v3] t fr)) :
  w.cell? ⟨g,0,none⟩=some v0/\w.cell? ⟨g,1,none⟩=some v1/\w.cell? ⟨g,2,none⟩=some v2/\w.cell? ⟨g,3,none⟩=some v3 :=
 ⟨cell_of_row w g 0 _ _ _ h,cell_of_row w g 1 _ _ _ h,cell_of_row w g 2 _ _ _ h,cell_of_row w g 3 _ _ _ h⟩
theorem xzm {w:World} {g:Nat} {v0 v1 v2 v3:Value} {t:TypeId} (h:w.heap[g]?=some (.cells #[v0,v1,v2,v3] t (0,0))) :
  g<w.heap.size/\w.frozen? ⟨g,0,none⟩=false/\w.frozen? ⟨g,1,none⟩=false/\w.frozen? ⟨g,2,none⟩=false/\w.frozen? ⟨g,3,none⟩=false :=
 ⟨Xv h,frozen_of_row _ g 0 _ _ h,frozen_of_row _ g 1 _ _ h,frozen_of_row _ g 2 _ _ h,frozen_of_row _ g 3 _ _ h⟩
theorem Gy {w:World} {b:Nat} {v0 v1 v2 v3:Value} (k:Nat) (h:k≠b):(set4 w b v0 v1 v2 v3).heap[k]?=w.heap[k]? :=
 (heap_setCell_other _ ⟨b,3,none⟩ k v3 h).trans ((heap_setCell_other _ ⟨b,2,none⟩ k v2 h).trans ((heap_setCell_other _ ⟨b,1,none⟩ k v1 h).trans (heap_setCell_other _ ⟨b,0,none⟩ k v0 h)))
theorem Ux (w:World) (g:Nat) (v0 v1 v2 v3 v4 v5:Value):w.grownBy (set6 w g v0 v1 v2 v3 v4 v5) (some g) :=
 Xp (Xp (Xp (Xp (Xp (Xu w g 0 v0) (Xu _ g 1 v1)) (Xu _ g 2 v2)) (Xu _ g 3 v3)) (Xu _ g 4 v4)) (Xu _ g 5 v5)
theorem xjf (w:World) (cs:Array Value) (base e:Nat) (hs:cs.size=6) (hb:base<=w.heap.size):(w.alloc (.cells cs e)).ownsRow base e 6 (.slice (some ⟨w.heap.size,0,none⟩) 1 1) 1 cs.toList :=
 ⟨by simpa using hs,.inr ⟨w.heap.size,1,cs,rfl,hb,heap_alloc_new w _,Nat.le_refl _,by simp[maxLen],by omega,List.take_of_length_le (by simp;omega)⟩⟩
theorem xqb {wr w2 w9:World} {gc B g9 n:Nat} {e:TypeId} {v sl:Value} {F ar:Fo} {h:Hd} {xs:List Value} {ob:Obj} (hF:Zb wr (λ b=>B<b/\some b≠v.ownBlock) F xs) (hjj:wr.ownsRow (B+1) e 6 v n xs)
  (hg:wr.grownBy w2 (some gc)) (hgc:gc<=B) (hB:B<wr.heap.size) (ha:Xk w2 (λ b=>wr.heap.size<=b) ar sl) (hg9:(w2.alloc ob).grownBy w9 v.ownBlock) (h9:v.ownBlock=some g9\/g9=(w2.alloc ob).heap.size) :
  Zb w9 (λ b=>B<b/\some b≠some g9) (F.app (Xb h ar)) (xs++hdc h sl):=by
 have hs:=hg.size
 have hsA:(w2.alloc ob).heap.size=w2.heap.size+1:=by simp
 have hs9:=hg9.size
 refine Zb.app (hF.keep (λ b hb hlt=>⟨?_,hb.1,?_⟩) (by omega)) (Xk.one (ha.keep (λ b hb hlt=>⟨?_,by omega,?_⟩) (by omega)))
 ·rw[hg9.block b (by omega) hb.2,Below.heap_alloc w2 ob b (by omega),hg.block b hlt (by simp;omega)]
 ·rcases h9 with h9|h9
  ·rw[<- h9];exact hb.2
  simp;omega
 ·rw[hg9.block b (by omega) (λ e=>by have:=(hjj.lt b e.symm).2;omega),Below.heap_alloc w2 ob b (by omega)]
 rcases h9 with h9|h9
 ·have:=(hjj.lt g9 h9).2;simp;omega
 simp;omega
theorem Zh {w:World} {P Q:Nat->Prop} {F:Fo} {xs:List Value} (hF:Zb w P F xs) (hl:F.len<=maxLen) (hPQ:∀ b,P b->b<w.heap.size->Q b) (hQ:Q w.heap.size):Xk (w.alloc (.cells xs.toArray 37)) Q F (.slice (some ⟨w.heap.size,0,none⟩) F.len F.len) :=
 ⟨some ⟨w.heap.size,0,none⟩,F.len,xs,rfl,Nat.le_refl _,hl,(λ e=>nomatch e),λ _=>⟨w.heap.size,0,rfl,hQ,by simp,λ j u hj=>by
  rw[Nat.zero_add,cell_of_row _ w.heap.size j _ _ _ (heap_alloc_new w _)]
  simpa using hj⟩,hF.keep (λ b hb hlt=>⟨Below.heap_alloc w _ b hlt,hPQ b hb hlt⟩) (by simp)⟩
theorem Zx {w:World} {g:Nat} (o:Obj) {v0 v1 v2 v3 v4 v5:Value} (h:g<w.heap.size):set6 (w.alloc o) g v0 v1 v2 v3 v4 v5=(set6 w g v0 v1 v2 v3 v4 v5).alloc o:=by
 unfold set6
 rw[World.setCell_alloc_past _ g 0 _ h,World.setCell_alloc_past _ g 1 _ (by simpa [World.setCell] using h),World.setCell_alloc_past _ g 2 _ (by simpa [World.setCell] using h),World.setCell_alloc_past _ g 3 _ (by simpa [World.setCell] using h),World.setCell_alloc_past _ g 4 _ (by simpa [World.setCell] using h),World.setCell_alloc_past _ g 5 _ (by simpa [World.setCell] using h)]
theorem xzj (k:Nat):∀ n,n<10 ^ (k+1)->(Lib.decDigits n).length<=k+1:=by
 induction k with
 | zero=>intro n hn;rw[Lib.decDigits_one (by simpa using hn)];simp
 | succ k ih =>
  intro n hn
  by_cases h:n<10
  ·rw[Lib.decDigits_one h];simp
  rw[Lib.decDigits,dif_neg h,List.length_append]
  have:=ih (n/10) (by rw[Nat.pow_succ] at hn;omega)
  simp;omega
theorem Zg {n:Nat} (hn:n<=9223372036854775807):(Lib.decDigits n).length<=19:=xzj 18 n (by omega)
end Go.Proofs.YtldgghnjminhiaaGreatDoor
