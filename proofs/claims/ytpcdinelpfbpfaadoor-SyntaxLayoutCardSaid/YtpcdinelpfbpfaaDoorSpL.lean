/-
  PLAIN LAW: other blanks give the same tokens but for their lines; how long a drawn source with other blanks is at most. No walk. (Filled in from a template of this repo.)
-/
import Derived.Test.YtpcdinelpfbpfaaDoorPpS
namespace Go.Proofs.YtpcdinelpfbpfaaDoor
open Go.ChangeShapes Go.WideShapes Go.ChangeAt Go.RowKit
set_option linter.unusedVariables false
set_option linter.unusedSimpArgs false

def bl (b:UInt8):Prop:=b.toNat=32\/b.toNat=10
instance (b:UInt8):Decidable (bl b):=by unfold bl;infer_instance
def blk (k:Nat):Bt:=if k=0 then [32] else if k=1 then [10] else [32,32,35,32,110,111,116,101,10]
inductive Sp:Bt->Bt->Prop
 | nil:Sp [] []
 | ch {b:UInt8} {t s:Bt} (hb : ¬ bl b) (h:Sp t s):Sp (b::t) (b::s)
 | gap {b:UInt8} {t s:Bt} (k:Nat) (hb:bl b) (h:Sp t s):Sp (b::t) (blk k++s)
theorem Sp.app {t s t2 s2:Bt} (h:Sp t s) (k:Sp t2 s2):Sp (t++t2) (s++s2):=by
 induction h with
 | nil=>exact k
 | ch hb _ ih=>exact .ch hb ih
 | gap j hb _ ih=>rw [List.append_assoc];exact .gap j hb ih
theorem blk_head (k:Nat) (s:Bt) : ∃ c r,blk k++s=c::r/\bl c:=by
 unfold blk
 split
 ·exact⟨_,_,rfl,.inl rfl⟩
 ·split
  ·exact⟨_,_,rfl,.inr rfl⟩
  ·exact⟨_,_,rfl,.inl rfl⟩
theorem blk_skip (k:Nat) (acc:List Tk) (s:Bt) (ln:Int) : ∃ d,scF acc (blk k++s) ln=scF acc s d:=by
 unfold blk
 split
 ·exact⟨ln,scF_32 _ _ _⟩
 ·split
  ·exact⟨ln+1,scF_10 _ _ _⟩
  ·refine⟨ln+1,?_⟩
   show scF acc (32::32::35::([32,110,111,116,101]++(10::s))) ln=_
   rw [scF_32,scF_32]
   have hrun:run nl8 (35::([32,110,111,116,101]++(10::s)))=[35,32,110,111,116,101]:=by
    rw [<- List.cons_append,run_app (by decide),run_stop (by intro c r2 e;injection e with e _;subst e;decide),List.append_nil]
   have hs:stepI ln 35 ([32,110,111,116,101]++(10::s))=.skip 6 0:=by
    unfold stepI
    rw [if_neg (by decide),if_neg (by decide),if_pos (by decide),hrun]
    rfl
   rw [scF_skip hs,Int.add_zero]
   show scF acc (10::s) ln=_
   rw [scF_10]
theorem bl_in {b:UInt8} (h:bl b):in8 b=false/\dg8 b=false/\lt8 b=false:=by
 unfold in8 dg8 lt8
 rcases h with h | h <;> rw [h] <;> decide
theorem in_bl {p:UInt8->Bool} (hp:p=in8\/p=dg8) {b:UInt8} (h:bl b):p b=false:=by
 rcases hp with rfl | rfl
 ·exact(bl_in h).1
 ·exact(bl_in h).2.1
theorem run_bl {p:UInt8->Bool} (hp:p=in8\/p=dg8) {b:UInt8} (h:bl b) (r:Bt):run p (b::r)=[]:=by
 unfold run
 rw [List.takeWhile_cons,if_neg (by rw [in_bl hp h];simp)]
theorem run_cons {p:UInt8->Bool} {b:UInt8} (r:Bt):run p (b::r)=if p b=true then b::run p r else []:=by
 unfold run
 rw [List.takeWhile_cons]
theorem Sp.run {p:UInt8->Bool} (hp:p=in8\/p=dg8) {t s:Bt} (h:Sp t s):Go.Proofs.YtpcdinelpfbpfaaDoor.run p t=Go.Proofs.YtpcdinelpfbpfaaDoor.run p s:=by
 induction h with
 | nil=>rfl
 | ch hb _ ih=>rw [run_cons,run_cons,ih]
 | @gap b t s k hb _ ih =>
  obtain⟨c,r,e,hc⟩:=blk_head k s
  rw [e,run_bl hp hb,run_bl hp hc]
theorem Sp.drop_run {p:UInt8->Bool} (hp:p=in8\/p=dg8) {t s:Bt} (h:Sp t s):Sp (t.drop (Go.Proofs.YtpcdinelpfbpfaaDoor.run p t).length) (s.drop (Go.Proofs.YtpcdinelpfbpfaaDoor.run p t).length):=by
 induction h with
 | nil=>exact .nil
 | @ch b t s hb h ih =>
  rw [run_cons]
  split
  ·rw [List.length_cons,List.drop_succ_cons,List.drop_succ_cons];exact ih
  ·exact .ch hb h
 | @gap b t s k hb h ih =>
  rw [run_bl hp hb]
  exact .gap k hb h
theorem bl_two {b c:UInt8} (h:bl c):isS [b,c]=false:=by
 cases e:isS [b,c] with
 | false=>rfl
 | true =>
  have:=isS_two e
  unfold bl at h
  rcases this with rfl | rfl | rfl <;> rcases h with h | h <;> exact absurd h (by decide)
theorem Sp.nx {b:UInt8} {t s:Bt} (h:Sp t s) (hb : ¬ bl b):nxI (b::s)=nxI (b::t)/\Sp ((b::t).drop (nxI (b::t)).2.2.1.length) ((b::s).drop (nxI (b::t)).2.2.1.length):=by
 have hc:Sp (b::t) (b::s):=.ch hb h
 have r1:=hc.run (.inl rfl)
 have r2:=hc.run (.inr rfl)
 have d1:=hc.drop_run (.inl rfl)
 have d2:=hc.drop_run (.inr rfl)
 unfold nxI
 dsimp only
 rw [<- r1,<- r2]
 by_cases h1:lt8 b=true
 ·rw [if_pos h1,if_pos h1];exact⟨rfl,d1⟩
 rw [if_neg h1,if_neg h1]
 by_cases h2:dg8 b=true
 ·rw [if_pos h2,if_pos h2]
  refine⟨rfl,?_⟩
  cases Lib.atoiAll (Go.Proofs.YtpcdinelpfbpfaaDoor.run dg8 (b::t)) <;> exact d2
 rw [if_neg h2,if_neg h2]
 have key : ∀ {t s:Bt},Sp t s->((1<(b::s).length/\isS ((b::s).take 2)=true)↔(1<(b::t).length/\isS ((b::t).take 2)=true)) /\
   ((1<(b::t).length/\isS ((b::t).take 2)=true)->(b::s).take 2=(b::t).take 2 /\ ∃ c t2 s2,¬ bl c/\t=c::t2/\s=c::s2/\Sp t2 s2):=by
  intro t s h
  cases h with
  | nil=>exact⟨Iff.rfl,fun k=>absurd k.1 (by simp)⟩
  | ch hc h=>exact⟨by simp,fun _=>⟨rfl,_,_,_,hc,rfl,rfl,h⟩⟩
  | @gap c t s k hc h =>
   obtain⟨c2,r2,e,hc2⟩:=blk_head k s
   rw [e]
   have e1:isS ((b::c::t).take 2)=false:=bl_two hc
   have e2:isS ((b::c2::r2).take 2)=false:=bl_two hc2
   rw [e1,e2]
   exact⟨by simp,fun k=>absurd k.2 (by simp)⟩
 obtain⟨k1,k2⟩:=key h
 by_cases h3:1<(b::t).length/\isS ((b::t).take 2)=true
 ·obtain⟨e,c,t2,s2,hcb,rfl,rfl,h4⟩:=k2 h3
  rw [if_pos h3,if_pos (k1.2 h3),e]
  exact⟨rfl,h4⟩
 ·rw [if_neg h3,if_neg (fun k=>h3 (k1.1 k))]
  exact⟨rfl,h⟩
theorem Sp.scan : ∀ (n:Nat) {t s:Bt} (hl:t.length<=n) (h:Sp t s) (h35 : ∀ b∈t,b.toNat≠35) (acc:List Tk) (ln:Int) (ts:List Tk) (y:Int) (e:scF acc t ln=(some ts,y)) (acc2:List Tk) (ln2:Int),
  ∃ ys zs l1 l2,ts=acc++(ys++[⟨0,l1,0,[]⟩])/\scF acc2 s ln2=(some (acc2++(zs++[⟨0,l2,0,[]⟩])),0)/\unl zs=unl ys /\ ∀ x∈zs,TokOk x:=by
 intro n
 induction n with
 | zero =>
  intro t s hl h h35 acc ln ts y e acc2 ln2
  have:t=[]:=List.eq_nil_of_length_eq_zero (by omega)
  subst this
  cases h
  rw [scF_nil] at e
  injection e with e _
  injection e with e
  exact⟨[],[],ln,ln2,e.symm,scF_nil _ _,rfl,by simp⟩
 | succ n ih =>
  intro t s hl h h35 acc ln ts y e acc2 ln2
  cases h with
  | nil =>
   rw [scF_nil] at e
   injection e with e _
   injection e with e
   exact⟨[],[],ln,ln2,e.symm,scF_nil _ _,rfl,by simp⟩
  | @gap b t s k hb h =>
   obtain⟨d,hd⟩:=blk_skip k acc2 s ln2
   have hl2:t.length<=n:=by simp only [List.length_cons] at hl;omega
   have hskip : ∃ d2,scF acc (b::t) ln=scF acc t d2:=by
    have e1:b=32\/b=10:=by
     rcases hb with hb | hb
     ·exact .inl (UInt8.toNat_inj.1 hb)
     ·exact .inr (UInt8.toNat_inj.1 hb)
    rcases e1 with rfl | rfl
    ·exact⟨_,scF_32 _ _ _⟩
    ·exact⟨_,scF_10 _ _ _⟩
   obtain⟨d2,hd2⟩:=hskip
   rw [hd2] at e
   rw [hd]
   exact ih hl2 h (fun c hc=>h35 c (by simp [hc])) acc d2 ts y e acc2 d
  | @ch b t s hb h =>
   have hl2:t.length<=n:=by simp only [List.length_cons] at hl;omega
   have h10:b.toNat≠10:=fun k=>hb (.inr k)
   have h32:b.toNat≠32:=fun k=>hb (.inl k)
   by_cases h9:b.toNat=9
   ·have e9:b=9:=UInt8.toNat_inj.1 h9
    subst e9
    rw [scF_9] at e ⊢
    exact ih hl2 h (fun c hc=>h35 c (by simp [hc])) acc ln ts y e acc2 ln2
   have hn35:=h35 b (by simp)
   obtain⟨n1,n2⟩:=h.nx hb
   cases hst:stepI ln b t with
   | skip k d =>
    unfold stepI at hst
    rw [if_neg h10,if_neg (by omega),if_neg hn35] at hst
    split at hst <;> cases hst
   | bad=>rw [scF_bad hst] at e;cases e
   | tok x =>
    obtain⟨_,_,_,_,hx,hxn⟩:=step_tok hst
    have hs2:=step_of (ln:=ln2) h10 h32 h9 hn35 (n1.trans hx)
    rw [scF_tok hst] at e
    rw [scF_tok hs2]
    rw [hx] at n2
    dsimp only at n2 ⊢
    have hpos:=nx_pos (b:=b) (r:=t) (by rw [hx])
    rw [hx] at hpos
    dsimp only at hpos
    obtain⟨ys,zs,l1,l2,e1,e2,e3,e4⟩:=ih (by rw [List.length_drop,List.length_cons];omega) n2 (fun c hc=>h35 c (List.mem_of_mem_drop hc)) _ ln ts y e (acc2++[⟨x.k,ln2,x.v,x.t⟩]) ln2
    refine⟨x::ys,⟨x.k,ln2,x.v,x.t⟩::zs,l1,l2,?_,?_,?_,?_⟩
    ·rw [e1];simp
    ·rw [e2];simp
    ·unfold unl at e3 ⊢
     rw [List.map_cons,List.map_cons,e3]
    ·intro z hz
     rw [List.mem_cons] at hz
     rcases hz with rfl | hz
     ·exact⟨ln2,b,s,hs2⟩
     ·exact e4 z hz

def wb (b:UInt8):Nat:=if b.toNat=32\/b.toNat=10 then 9 else if b.toNat=35 then 100000 else 1
def wt:Bt->Nat
 | []=>0
 | b::r=>wb b+wt r
theorem wt_app (a b:Bt):wt (a++b)=wt a+wt b:=by
 induction a with
 | nil=>simp [wt]
 | cons c a ih=>simp only [List.cons_append,wt,ih];omega
theorem wt_35 {t:Bt} (h:wt t<100000) : ∀ b∈t,b.toNat≠35:=by
 induction t with
 | nil=>simp
 | cons c r ih =>
  simp only [wt] at h
  intro b hb
  rw [List.mem_cons] at hb
  rcases hb with rfl | hb
  ·intro e
   have:wb b=100000:=by unfold wb;rw [e];rfl
   omega
  ·exact ih (by omega) b hb
theorem blk_len (k:Nat):(blk k).length<=9:=by
 unfold blk
 split
 ·decide
 ·split <;> decide
theorem Sp.len {t s:Bt} (h:Sp t s):s.length<=wt t:=by
 induction h with
 | nil=>exact Nat.le_refl _
 | @ch b t s hb _ ih =>
  have:1<=wb b:=by unfold wb;split;omega;split <;> omega
  simp only [List.length_cons,wt]
  omega
 | @gap b t s k hb _ ih =>
  have h1:wb b=9:=by unfold wb;exact if_pos hb
  have:=blk_len k
  rw [List.length_append]
  simp only [wt]
  omega
theorem wt_in {l:Bt} (h : ∀ c∈l,in8 c=true):wt l=l.length:=by
 induction l with
 | nil=>rfl
 | cons c r ih =>
  have h1:=h c (by simp)
  have h2:=ih (fun x hx=>h x (by simp [hx]))
  have:wb c=1:=by
   unfold wb
   unfold in8 lt8 dg8 at h1
   simp only [Bool.or_eq_true,decide_eq_true_eq] at h1
   rw [if_neg (by omega),if_neg (by omega)]
  simp only [wt,List.length_cons]
  omega
theorem okN.wt {nm:Bt} (h:okN nm):Go.Proofs.YtpcdinelpfbpfaaDoor.wt nm<=4:=by
 obtain⟨b,r,rfl,h1,h2,_,hl⟩:=h
 rw [wt_in (by
  intro c hc
  rw [List.mem_cons] at hc
  rcases hc with rfl | hc
  ·unfold in8;rw [h1];rfl
  ·exact h2 c hc)]
 exact hl
theorem wt_dec (n:Nat) (hn:n<=9223372036854775807):wt (Lib.decDigits n)<=19:=by
 rw [wt_in (by
  intro c hc
  have:=(dec_all n).1 c hc
  unfold in8 dg8
  simp only [Bool.or_eq_true,decide_eq_true_eq]
  omega)]
 exact dec_len19 hn
theorem wt_sgn (op:Int):wt (sgn op)<=2:=by
 unfold sgn
 split
 ·simp [wt]
 ·by_cases h:op.toNat<12
  ·have:op.toNat=0\/op.toNat=1\/op.toNat=2\/op.toNat=3\/op.toNat=4\/op.toNat=5\/op.toNat=6\/op.toNat=7\/op.toNat=8\/op.toNat=9\/op.toNat=10\/op.toNat=11:=by omega
   rcases this with e | e | e | e | e | e | e | e | e | e | e | e <;> rw [e] <;> decide
  ·have e:sgnL[op.toNat]?=none:=List.getElem?_eq_none (by show 12<=_;omega)
   rw [List.getD,e];simp [wt]
def wtt:List (Hd×Bt)->Nat
 | []=>0
 | a::r=>wt a.2+wtt r
theorem wt_opd (h:Hd) (s:Bt):wt (opd h s)<=wt s+2:=by
 unfold opd paren
 split
 ·simp [wt,wt_app,wb];omega
 ·omega
theorem wt_comm (os:List (Hd×Bt)):wt (comm (os.map (·.2)))<=wtt os+10 * os.length:=by
 induction os with
 | nil=>simp [comm,wt]
 | cons a r ih =>
  cases r with
  | nil=>simp [comm,wtt]
  | cons b r =>
   show wt (a.2++(([44,32]:Bt)++comm ((b::r).map (fun (x:Hd×Bt)=>x.2))))<=wt a.2+wtt (b::r)+10 * ((b::r).length+1)
   rw [wt_app,wt_app]
   simp only [List.length_cons] at ih ⊢
   have:wt [44,32]=10:=rfl
   omega
theorem wt_fmt1 (h:Hd) (ar:Fo) (hok:okH h ar) (os:List (Hd×Bt)) (ho:os.length=ar.len):wt (fmt1 h os)<=own h ar.len+wtt os:=by
 unfold fmt1 own
 by_cases k1:h.k=1
 ·rw [if_pos k1,if_pos k1]
  rcases hok with hok | hok | hok
  ·omega
  ·have:=wt_dec h.v.toNat (by omega);omega
  ·omega
 rw [if_neg k1,if_neg k1]
 have hnm:wt h.nm<=4:=by
  rcases hok with⟨_,_,hok⟩ | ⟨_,_,hok,_⟩ | ⟨_,hok,_⟩
  ·rcases hok with⟨_,hok,_⟩ | ⟨_,hok,_⟩ | ⟨_,hok,_⟩ | ⟨_,hok,_⟩ | ⟨_,hok,_⟩ | ⟨_,hok,_⟩ | ⟨_,hok,_⟩ <;> first | exact hok.wt | (rw [hok];simp [wt])
  ·rw [hok];simp [wt]
  ·rw [hok];simp [wt]
 have hlen3:os.length<=3:=by
  rw [ho]
  rcases hok with⟨_,_,hok⟩ | ⟨_,_,_,_,_,hok⟩ | ⟨_,_,hok⟩
  ·rcases hok with⟨_,_,hok⟩ | ⟨_,_,hok⟩ | ⟨_,_,hok⟩ | ⟨_,_,hok⟩ | ⟨_,_,hok⟩ | ⟨_,_,hok⟩ | ⟨_,_,g,bs,r,hok,_,hr⟩ <;> first | (subst hok;simp [Fo.len];done) | (subst hok;simp only [Fo.len];omega) | omega
  ·subst hok;simp [Fo.len]
  ·omega
 have hsl:=wt_sgn h.op
 by_cases k13:h.k=13
 ·rw [if_pos (.inl k13),if_pos k13];omega
 by_cases k2:h.k=13\/h.k=2\/h.k=3
 ·rw [if_pos k2,if_neg k13]
  by_cases e:h.k=12
  ·omega
  ·rw [if_neg e]
   split <;> omega
 rw [if_neg k2,if_neg k13]
 by_cases k12:h.k=12
 ·rw [if_pos k12,if_pos k12];simp [wt,wb];omega
 rw [if_neg k12,if_neg k12]
 by_cases k11:h.k=11
 ·rw [if_pos k11,if_pos k11];simp [wt,wb];omega
 rw [if_neg k11,if_neg k11]
 have hop:=wt_opd
 split
 ·split
  ·simp [wt,wb,wt_app,wtt];omega
  ·simp [wt]
 split
 ·split
  ·rename_i a
   have:=wt_opd a.1 a.2
   simp [wt,wb,wt_app,wtt];omega
  ·simp [wt]
 split
 ·split
  ·rename_i a b
   have:=wt_opd a.1 a.2
   have:=wt_opd b.1 b.2
   simp [wt,wb,wt_app,wtt];omega
  ·simp [wt]
 split
 ·split
  ·rename_i a b
   have:=wt_opd a.1 a.2
   have:=wt_opd b.1 b.2
   simp [wt,wb,wt_app,wtt];omega
  ·simp [wt]
 split
 ·split
  ·rename_i a b
   have:=wt_opd a.1 a.2
   have:=wt_opd b.1 b.2
   simp [wt,wb,wt_app,wtt];omega
  ·simp [wt]
 split
 ·have:=wt_comm os
  simp [listB,paren,wt,wb,wt_app];omega
 split
 ·split
  ·rename_i a r
   have h1:=wt_opd a.1 a.2
   have h2:=wt_comm r
   simp only [List.length_cons] at hlen3
   have h3:wt (if a.1.k=13\/a.1.k=2\/a.1.k=3 then paren (opd a.1 a.2) else opd a.1 a.2)<=wt a.2+4:=by
    split
    ·simp [paren,wt,wb,wt_app];omega
    ·omega
   simp only [wt_app,listB,paren,wt,wtt] at h3 ⊢
   have e1:wb 40=1:=rfl
   have e2:wb 41=1:=rfl
   omega
  ·simp [wt]
 ·simp [wt]
theorem wt_fmts (F:Fo) (hw:F.wf):wtt (fmts F)<=F.cst:=by
 induction F with
 | nil=>exact Nat.le_refl _
 | cons h ar r ih1 ih2 =>
  have h1:=ih1 hw.2.2.1
  have h2:=ih2 hw.2.2.2
  have h3:=wt_fmt1 h ar hw.1 (fmts ar) (fmts_len ar)
  show wt (fmt1 h (fmts ar))+wtt (fmts r)<=own h ar.len+ar.cst+r.cst
  omega
theorem wtt_get (os:List (Hd×Bt)) (i:Nat) (x:Hd×Bt) (h:os[i]?=some x):wt x.2<=wtt os:=by
 induction os generalizing i with
 | nil=>simp at h
 | cons a r ih =>
  cases i with
  | zero=>simp at h;subst h;simp [wtt]
  | succ i=>have:=ih i (by simpa using h);simp only [wtt];omega
theorem wt_val (xs:Fo) (hw:xs.wf) (i:Nat):wt (valF xs i)<=xs.cst:=by
 unfold valF
 cases h:(fmts xs)[i]? with
 | none=>simp [wt]
 | some a=>exact Nat.le_trans (wtt_get _ _ _ h) (wt_fmts xs hw)
theorem wtt_two (os:List (Hd×Bt)) (a b:Hd×Bt) (h0:os[0]?=some a) (h1:os[1]?=some b):wt a.2+wt b.2<=wtt os:=by
 cases os with
 | nil=>simp at h0
 | cons x r =>
  cases r with
  | nil=>simp at h1
  | cons y r =>
   simp at h0 h1
   subst h0 h1
   simp only [wtt];omega
theorem wt_val2 (xs:Fo) (hw:xs.wf):wt (valF xs 0)+wt (valF xs 1)<=xs.cst:=by
 have h0:=wt_val xs hw 0
 have h1:=wt_val xs hw 1
 have hc:=wt_fmts xs hw
 unfold valF at h0 h1 ⊢
 cases e0:(fmts xs)[0]? with
 | none=>rw [e0] at h0;cases e1:(fmts xs)[1]? with
  | none=>simp [wt]
  | some b=>rw [e1] at h1;simpa [wt] using h1
 | some a=>rw [e0] at h0;cases e1:(fmts xs)[1]? with
  | none=>simpa [wt] using h0
  | some b=>exact Nat.le_trans (wtt_two _ a b e0 e1) hc
theorem okS.wt {k:Int} {nm:Bt} {xs:Fo} {th el:Sf} (h:okS k nm xs th el):Go.Proofs.YtpcdinelpfbpfaaDoor.wt nm<=4:=by
 rcases h with⟨_,h,_⟩ | ⟨_,h,_⟩ | ⟨_,h,_⟩ | ⟨_,h,_⟩ | ⟨_,h,_⟩ | ⟨_,h,_⟩
 ·exact okN.wt h
 ·exact okN.wt h
 all_goals (rw [h];simp [Go.Proofs.YtpcdinelpfbpfaaDoor.wt])
theorem wt_tabs (n:Nat):wt (tabs n)=n:=by
 unfold tabs
 induction n with
 | zero=>rfl
 | succ n ih=>rw [List.replicate_succ];simp only [wt];rw [ih,show wb 9=1 from rfl];omega
theorem wt_fmtS (S:Sf) (hw:S.wf) (n:Nat) (hn:S.nst+n<=10):wt (fmtS S n)<=S.cst:=by
 induction S generalizing n with
 | nil=>simp [fmtS,wt]
 | cons k ln nm xs th el r ih1 ih2 ih3 =>
  obtain⟨hok,_,hx,ht,he,hr⟩:=hw
  simp only [Sf.nst] at hn
  have h1:=ih1 ht (n+1) (by omega)
  have h2:=ih2 he (n+1) (by omega)
  have h3:=ih3 hr n (by omega)
  have hv0:=wt_val xs hx 0
  have hv2:=wt_val2 xs hx
  have hnm:=hok.wt
  have htab:=wt_tabs n
  have hb:wt (body1 k nm xs th el n)<=120+xs.cst+th.cst+el.cst:=by
   have a0:wt [118,97,114,32]=12:=rfl
   have a1:wt [32,61,32]=19:=rfl
   have a2:wt [59]=1:=rfl
   have a3:wt [91]=1:=rfl
   have a4:wt [93,32,61,32]=20:=rfl
   have a5:wt [114,101,116,117,114,110,32]=15:=rfl
   have a6:wt [112,114,105,110,116,32]=14:=rfl
   have a7:wt [99,97,108,108,32]=13:=rfl
   have a8:wt [119,104,105,108,101,32]=14:=rfl
   have a9:wt [32,123,10]=19:=rfl
   have a10:wt [125]=1:=rfl
   have a11:wt [105,102,32]=11:=rfl
   have a12:wt [32,101,108,115,101,32,123,10]=32:=rfl
   have a13:wt []=0:=rfl
   unfold body1
   split
   ·simp only [wt_app,a0,a1,a2,a3,a4,a5,a6,a7,a8,a9,a10];omega
   split
   ·simp only [wt_app,a0,a1,a2,a3,a4,a5,a6,a7,a8,a9,a10];omega
   split
   ·simp only [wt_app,a0,a1,a2,a3,a4,a5,a6,a7,a8,a9,a10];omega
   split
   ·simp only [wt_app,a0,a1,a2,a3,a4,a5,a6,a7,a8,a9,a10];omega
   split
   ·simp only [wt_app,a0,a1,a2,a3,a4,a5,a6,a7,a8,a9,a10];omega
   split
   ·simp only [wt_app,a0,a1,a2,a3,a4,a5,a6,a7,a8,a9,a10];omega
   split
   ·simp only [wt_app,a0,a1,a2,a3,a4,a5,a6,a7,a8,a9,a10];omega
   split
   ·split
    ·simp only [wt_app,a10,a11,a9,a13];omega
    ·simp only [wt_app,a10,a11,a9,a12];omega
   ·rw [a13];omega
  rw [fmtS_cons]
  have e10:wt [10]=9:=rfl
  simp only [wt_app,Sf.cst,e10]
  omega
theorem wt_commL (l:List Bt) (h : ∀ x∈l,wt x<=4):wt (comm l)<=14 * l.length:=by
 induction l with
 | nil=>simp [comm,wt]
 | cons a r ih =>
  have h1:=h a (by simp)
  have h2:=ih (fun x hx=>h x (by simp [hx]))
  cases r with
  | nil=>simp [comm];omega
  | cons b r =>
   show wt (a++(([44,32]:Bt)++comm (b::r)))<=14 * ((b::r).length+1)
   rw [wt_app,wt_app]
   have:wt [44,32]=10:=rfl
   simp only [List.length_cons] at h2 ⊢
   omega
theorem wt_flat {α:Type} (f:α->Bt) (c:Nat) (l:List α) (h : ∀ x∈l,wt (f x)<=c):wt (l.flatMap f)<=l.length * c:=by
 induction l with
 | nil=>simp [wt]
 | cons a r ih =>
  rw [List.flatMap_cons,wt_app,List.length_cons,Nat.add_mul]
  have:=h a (by simp)
  have:=ih (fun x hx=>h x (by simp [hx]))
  omega
theorem wt_fmtG (x:Bt×Int) (h:okN x.1/\0<=x.2/\x.2<=5):wt (fmtG x)<=60:=by
 have h1:=h.1.wt
 have h2:=wt_dec x.2.toNat (by omega)
 unfold fmtG
 split
 ·simp [wt_app,wt,wb];omega
 ·simp [wt_app,wt,wb];omega
theorem wt_fmtF {w:World} {P:Nat->Prop} {f:Fr} {F:Fn} (h:FnAt w P f F) (hn:okN f.nm/\f.pn<=2):wt (fmtF F)<=9300:=by
 obtain⟨h1,h2,_,_,_,_,h7,_,h9,h10,h11,_⟩:=h
 have hl:=wt_fmtS F.bd h9 1 (by omega)
 have hc:=wt_commL F.ps (fun p hp=>(h7 p hp).wt)
 have hnm:=hn.1.wt
 rw [h1] at hnm
 have hps:F.ps.length<=2:=by have:=hn.2;omega
 unfold fmtF
 simp [wt_app,wt,wb]
 omega
theorem SrcIn.wt {w:World} {gs:List (Bt×Int)} {fs:List Fr} {Fs:List Fn} {aa ab:Option Addr} {ca cb:Nat} (h:SrcIn w gs fs Fs aa ca ab cb):Go.Proofs.YtpcdinelpfbpfaaDoor.wt (fmtP gs Fs)<=37500:=by
 have h1:=wt_flat fmtG 60 gs (fun x hx=>wt_fmtG x (h.gok x hx))
 have h2:=wt_flat fmtF 9300 Fs (fun F hF=>by
  obtain⟨j,hj,e⟩:=List.mem_iff_getElem.1 hF
  obtain⟨f,hf,hFn⟩:=h.fns.get2 (j:=j) (F:=F) (by rw [List.getElem?_eq_getElem hj,e])
  exact wt_fmtF hFn (h.fok f (List.mem_of_getElem? hf)))
 have h3:=h.fns.len
 have h4:=h.gn
 have h5:=h.f4
 have h6:gs.length * 60<=4 * 60:=Nat.mul_le_mul_right _ h4
 have h7:Fs.length * 9300<=4 * 9300:=Nat.mul_le_mul_right _ (by omega)
 unfold fmtP
 rw [wt_app]
 omega
theorem scF_lines (n:Nat) (acc:List Tk) (s:Bt) : ∀ ln:Int,∃ d,scF acc (List.replicate n 10++s) ln=scF acc s d:=by
 induction n with
 | zero=>intro ln;exact⟨ln,rfl⟩
 | succ n ih =>
  intro ln
  rw [List.replicate_succ,List.cons_append,scF_10]
  exact ih _
theorem SrcIn.laid {w:World} {gs:List (Bt×Int)} {fs:List Fr} {Fs:List Fn} {aa ab:Option Addr} {ca cb:Nat} (h:SrcIn w gs fs Fs aa ca ab cb) {s:Bt} (hs:Sp (fmtP gs Fs) s) (n:Nat) :
  ∃ ys ln,Go.Proofs.YtpcdinelpfbpfaaDoor.scan (List.replicate n 10++s)=(some (ys++[⟨0,ln,0,[]⟩]),0)/\unl ys=tokP gs Fs/\(∀ x∈ys,TokOk x):=by
 obtain⟨ys,ln,e1,e2,e3,_,_⟩:=h.scan
 have hw:=h.wt
 obtain⟨d,hd⟩:=scF_lines n [] s 1
 rw [scan_F] at e1
 obtain⟨ys2,zs,l1,l2,k1,k2,k3,k4⟩:=Sp.scan _ (Nat.le_refl _) hs (wt_35 (by omega)) [] 1 _ _ e1 [] d
 refine⟨zs,l2,?_,?_,k4⟩
 ·rw [scan_F,hd,k2];rfl
 ·rw [k3,<- e2]
  rw [List.nil_append] at k1
  have:ys=ys2:=(List.append_inj' k1 rfl).1
  rw [this]
theorem SrcIn.laid_len {w:World} {gs:List (Bt×Int)} {fs:List Fr} {Fs:List Fn} {aa ab:Option Addr} {ca cb:Nat} (h:SrcIn w gs fs Fs aa ca ab cb) {s:Bt} (hs:Sp (fmtP gs Fs) s):s.length<=37500:=Nat.le_trans hs.len h.wt
end Go.Proofs.YtpcdinelpfbpfaaDoor
