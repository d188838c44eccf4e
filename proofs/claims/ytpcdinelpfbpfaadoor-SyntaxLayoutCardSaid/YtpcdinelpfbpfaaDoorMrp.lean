/-
  WORDS: texts in rows. No walk. (Filled in from a template of this repo.)
  PLAIN WORDS: what digits mean, by strconv's way and by the reference's; no walk. (Filled in from a template of this repo.)
-/
import Derived.Test.YtpcdinelpfbpfaaDoorMtk
import Derived.Lib.AtoiAllCases
import Derived.Lib.ItoaMem
namespace Go.Proofs.YtpcdinelpfbpfaaDoor
open Go.ChangeShapes Go.WideShapes Go.ChangeAt Go.RowKit
set_option linter.unusedVariables false
set_option linter.unusedSimpArgs false

abbrev strs (ls:List Bt):List Value:=ls.map (fun l=>Value.string (st l))
theorem strs_get (ls:List Bt) (j:Nat) (h:j<ls.length):(strs ls)[j]?=some (.string (st (ls.getD j []))):=by simp [List.getD,h]
theorem strs_ne (ls:List Bt) (j:Nat) (h:j<ls.length):strs ls≠[]:=by
 intro e;have:=congrArg List.length e;simp at this;subst this;simp at h
theorem strs_one (ls:List Bt) : ∀ v∈strs ls,v.oneCell'=true:=by intro v hv;simp at hv;obtain⟨z,_,rfl⟩:=hv;rfl
theorem Cells.str {w:World} {a:Option Addr} {ls:List Bt} (h:Cells w a (strs ls)) (j:Nat) (hj:j<ls.length) :
  ∃ b off,a=some ⟨b,off,none⟩/\b<w.heap.size /\ ∀ i,i<ls.length->w.cell? ⟨b,off+i,none⟩=some (.string (st (ls.getD i []))):=by
 obtain⟨b,off,e,hb,hc⟩:=h (strs_ne ls j hj)
 exact⟨b,off,e,hb,fun i hi=>hc i _ (strs_get ls i hi)⟩
theorem contains_at {ls:List Bt} {s:Bt} {k:Nat} (hk:k<ls.length) (h:ls.getD k []=s):ls.contains s=true:=by
 have e:ls[k]=s:=by simpa [List.getD,hk] using h
 simp only [List.contains_iff_mem]
 exact e▸List.getElem_mem hk
theorem contains_none {ls:List Bt} {s:Bt} (h : ∀ j,j<ls.length->ls.getD j []≠s):ls.contains s=false:=by
 cases hc:ls.contains s
 ·rfl
 ·rw [List.contains_iff_mem] at hc
  obtain⟨j,hj,e⟩:=List.getElem_of_mem hc
  exact absurd (by simpa [List.getD,hj] using e) (h j hj)
theorem Cells.fresh (w:World) (xs:List Value) (t:TypeId):Cells (w.alloc (.cells xs.toArray t)) (some ⟨w.heap.size,0,none⟩) xs:=by
 intro _
 refine⟨w.heap.size,0,rfl,by simp,fun j u hj=>?_⟩
 rw [Nat.zero_add,World.cell?_alloc_new]
 simpa using hj
theorem below_alloc (w:World) (o:Obj):Below w.heap.size w (w.alloc o):=(Below.refl _ _).alloc (Nat.le_refl _) _
theorem st_data' (s:ByteArray) : ∃ l,s=st l:=⟨s.data.toList,(st_data s).symm⟩
theorem st_at (l:Bt) (k:Nat) (h:k<(st l).size):(st l)[k]=l[k]:=rfl
end Go.Proofs.YtpcdinelpfbpfaaDoor
namespace Go.Proofs.YtpcdinelpfbpfaaDoor
set_option linter.unusedVariables false
set_option linter.unusedSimpArgs false

def decF (a:Nat) (l:Bt):Nat:=l.foldl (fun a c=>10 * a+(c.toNat - 48)) a
def decN (l:Bt):Nat:=decF 0 l
theorem decF_nil (a:Nat):decF a []=a:=rfl
theorem decF_cons (a:Nat) (c:UInt8) (l:Bt):decF a (c::l)=decF (10 * a+(c.toNat - 48)) l:=by unfold decF;simp only [List.foldl_cons]
theorem decF_push (a:Nat) (l:Bt) (c:UInt8):decF a (l++[c])=10 * decF a l+(c.toNat - 48):=by unfold decF;simp only [List.foldl_append,List.foldl_cons,List.foldl_nil]
theorem decF_ge (a:Nat) (l:Bt):a<=decF a l:=by
 induction l generalizing a with
 | nil=>exact Nat.le_refl _
 | cons c l ih =>
  rw [decF_cons]
  exact Nat.le_trans (show a<=10 * a+(c.toNat - 48) by omega) (ih _)
theorem decN_take_le (l:Bt) (k:Nat):decN (l.take k)<=decN l:=by
 have h:decN l=decF (decN (l.take k)) (l.drop k):=by
  unfold decN decF
  rw [<- List.foldl_append,List.take_append_drop]
 rw [h];exact decF_ge _ _
theorem decN_take_succ (l:Bt) (k:Nat) (c:UInt8) (h:l[k]?=some c):decN (l.take (k+1))=10 * decN (l.take k)+(c.toNat - 48):=by
 have:l.take (k+1)=l.take k++[c]:=by rw [List.take_add_one,h];rfl
 rw [this];exact decF_push _ _ _
def allD (l:Bt):Prop := ∀ c∈l,48<=c.toNat/\c.toNat<=57
theorem parseU_dec (l:Bt) (a:Nat) (hd:allD l):Lib.parseUint10 a l=if decF a l<18446744073709551616\/l=[] then .ok (decF a l) else .range:=by
 induction l generalizing a with
 | nil=>simp [Lib.parseUint10,decF_nil]
 | cons c l ih =>
  have hc:=hd c (by simp)
  have hl:allD l:=fun x hx=>hd x (by simp [hx])
  rw [Lib.parseUint10,if_pos hc,decF_cons]
  have e:a * 10+(c.toNat - 48)=10 * a+(c.toNat - 48):=by omega
  have g:=decF_ge (10 * a+(c.toNat - 48)) l
  rw [e]
  by_cases h1:1844674407370955162<=a
  ·rw [if_pos h1,if_neg (by simp;omega)]
  ·rw [if_neg h1]
   by_cases h2:18446744073709551616<=10 * a+(c.toNat - 48)
   ·rw [if_pos h2,if_neg (by simp;omega)]
   ·rw [if_neg h2,ih _ hl]
    by_cases h3:l=[]
    ·subst h3;simp [decF_nil];omega
    ·simp [h3]
theorem atoi_dec (l:Bt) (hd:allD l) (hne:l≠[]):Lib.atoiAll l=if decN l<9223372036854775808 then .ok (decN l:Int) else .range:=by
 cases l with
 | nil=>exact absurd rfl hne
 | cons c r =>
  have hc:=hd c (by simp)
  rw [Lib.atoiAll_plain c r (by omega) (by omega)]
  unfold Lib.parseMag
  rw [if_neg (by simp),parseU_dec _ _ hd,<- show decN (c::r)=decF 0 (c::r) from rfl]
  by_cases h:decN (c::r)<18446744073709551616
  ·rw [if_pos (Or.inl h)]
   unfold Lib.signless
   by_cases h2:decN (c::r)<9223372036854775808
   ·rw [if_pos h2];simp only;rw [if_neg (by omega)]
   ·rw [if_neg h2];simp only;rw [if_pos (by omega)]
  ·rw [if_neg (fun e=>e.elim h (fun e=>by cases e)),if_neg (by omega)];rfl
theorem decN_pos (c:UInt8) (r:Bt) (h:49<=c.toNat):1<=decN (c::r):=by
 have:=decF_ge (10 * 0+(c.toNat - 48)) r
 show 1<=decF 0 (c::r)
 rw [decF_cons];omega
theorem of_dig (c:UInt8) (h:48<=c.toNat):UInt8.ofNat (48+(c.toNat - 48))=c:=by
 rw [show 48+(c.toNat - 48)=c.toNat by omega]
 exact UInt8.ofNat_toNat
theorem decDigits_dec (l:Bt):allD l -> ∀ (c:UInt8) (r:Bt),l=c::r->(49<=c.toNat\/r=[])->Lib.decDigits (decN l)=l:=by
 have key : ∀ (n:Nat) (l:Bt),l.length=n->allD l -> ∀ (c:UInt8) (r:Bt),l=c::r->(49<=c.toNat\/r=[])->Lib.decDigits (decN l)=l:=by
  intro n
  induction n with
  | zero=>intro l hl _ c r e;subst e;simp at hl
  | succ n ih =>
   intro l hl hd c r e hz
   rcases List.eq_nil_or_concat l with rfl | ⟨l',x,rfl⟩
   ·cases e
   ·rw [List.concat_eq_append] at *
    have hx:=hd x (by simp)
    have e2:decN (l'++[x])=10 * decN l'+(x.toNat - 48):=decF_push _ _ _
    cases l' with
    | nil =>
     rw [e2]
     show Lib.decDigits (10 * 0+(x.toNat - 48))=[x]
     rw [Lib.decDigits,dif_pos (by omega),Nat.mul_zero,Nat.zero_add,of_dig x hx.1]
    | cons c' r' =>
     have hh:c'=c/\r'++[x]=r:=by simpa using e
     obtain⟨rfl,rfl⟩:=hh
     have h49:49<=c'.toNat:=hz.resolve_right (by simp)
     have hp:=decN_pos c' r' h49
     have h3:=ih (c'::r') (by simp at hl;simp;omega) (fun y hy=>hd y (List.mem_append_left _ hy)) c' r' rfl (.inl h49)
     rw [e2,Lib.decDigits,dif_neg (by omega)]
     rw [show (10 * decN (c'::r')+(x.toNat - 48)) / 10=decN (c'::r') by omega,h3,show (10 * decN (c'::r')+(x.toNat - 48)) % 10=x.toNat - 48 by omega,of_dig x hx.1]
 exact key _ l rfl
theorem decDigits_head (u:Nat):1<=u -> ∃ c r,Lib.decDigits u=c::r/\49<=c.toNat:=by
 induction u using Nat.strongRecOn with
 | _ u ih =>
  intro h1
  by_cases h:u<10
  ·refine⟨_,[],Lib.decDigits_one h,?_⟩
   rw [UInt8.toNat_ofNat'];omega
  ·obtain⟨c,r,e,hc⟩:=ih (u / 10) (by omega) (by omega)
   refine⟨c,r++[UInt8.ofNat (48+u % 10)],?_,hc⟩
   rw [Lib.decDigits,dif_neg h,e];rfl
theorem itoa_dec (c:UInt8) (r:Bt) (hd:allD (c::r)):(Lib.itoa (decN (c::r):Int)==c::r)=decide (49<=c.toNat\/r=[]):=by
 have hc:=hd c (by simp)
 rw [Lib.itoa_nonneg]
 by_cases h:49<=c.toNat\/r=[]
 ·rw [decDigits_dec _ hd c r rfl h];simp [h]
 ·rw [decide_eq_false h,beq_eq_false_iff_ne]
  intro e
  by_cases h0:decN (c::r)=0
  ·rw [h0,Lib.decDigits_one (by omega)] at e
   have:=congrArg List.length e
   simp at this
   exact h (.inr (by simpa using this))
  ·obtain⟨c',r',e',hc'⟩:=decDigits_head (decN (c::r)) (by omega)
   rw [e'] at e
   injection e with e1 e2
   subst e1
   exact h (.inl hc')
end Go.Proofs.YtpcdinelpfbpfaaDoor
