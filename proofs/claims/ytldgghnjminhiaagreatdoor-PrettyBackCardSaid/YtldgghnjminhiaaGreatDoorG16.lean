/-
  WORDS, PLAIN LAWS and WALKS (QsO QsF QsR QsA QsB QsC QsU QsP QsH), pressed. (Filled in from templates of this repo.)
-/
import Derived.Test.YtldgghnjminhiaaGreatDoorG15
import Derived.Test.YtldgghnjminhiaaGreatDoorG9
namespace Go.Proofs.YtldgghnjminhiaaGreatDoor
open Go Go.ChangeAt Go.ChangeShapes Go.RowKit Go.WideShapes
set_option linter.unusedVariables false
set_option linter.unusedSimpArgs false
set_option maxRecDepth 100000
set_option maxHeartbeats 16000000
def opF (bad:Bool) (rest:List Tk):List (Bt×Int)->Option Int
 | []=>none
 | x::l=>if (!bad&&isT x.1 rest)=true then some x.2 else opF bad rest l
theorem xjn {bad:Bool} {rest:List Tk} {l:List (Bt×Int)} {i:Nat} {x:Bt×Int} (hx:l[i]?=some x) (h:(!bad&&isT x.1 rest)=true):opF bad rest (l.drop i)=some x.2:=by
 obtain⟨hlt,e⟩:=List.getElem?_eq_some_iff.mp hx
 rw[List.drop_eq_getElem_cons hlt,e]
 show (if _ then _ else _)=_
 rw[if_pos h]
theorem xxx {bad:Bool} {rest:List Tk} {l:List (Bt×Int)} {i:Nat} {x:Bt×Int} (hx:l[i]?=some x) (h:(!bad&&isT x.1 rest)=false):opF bad rest (l.drop i)=opF bad rest (l.drop (i+1)):=by
 obtain⟨hlt,e⟩:=List.getElem?_eq_some_iff.mp hx
 rw[List.drop_eq_getElem_cons hlt,e]
 show (if _ then _ else _)=_
 rw[if_neg (by rw[h];simp)]
def Sgn (w:World) (bs bo:Nat) (l:List (Bt×Int)):Prop:=bs<w.heap.size/\bo<w.heap.size/\∀ j x,l[j]?=some x->w.cell? ⟨bs,j,none⟩=some (.string (st x.1))/\w.cell? ⟨bo,j,none⟩=some (.int .i64 x.2)
theorem Sgn.below {w w':World} {bs bo:Nat} {l:List (Bt×Int)} (h:Sgn w bs bo l) (hb:Below w.heap.size w w'):Sgn w' bs bo l :=
 ⟨by have:=hb.size;have:=h.1;omega,by have:=hb.size;have:=h.2.1;omega,λ j x hj=>⟨(World.cell?_of_block (a:=⟨bs,j,none⟩) (hb.block bs h.1)).trans (h.2.2 j x hj).1,(World.cell?_of_block (a:=⟨bo,j,none⟩) (hb.block bo h.2.1)).trans (h.2.2 j x hj).2⟩⟩
def xvx (K:PC) (at_:Nat) (bad:Bool) (rest:List Tk) (l:List (Bt×Int)) (w:World) (e:Ending) (w':World):Prop :=
 ∃ at2 rest2,RAt w' K at2 bad rest2/\w.grownBy w' (some K.g) /\
  ((∃ o,opF bad rest l=some o/\e=.returned (.tuple #[.int .i64 o,.int .i64 (Yb rest)])/\bad=false/\kOf rest≠0/\at2=at_+1/\rest2=rest.tail)\/(opF bad rest l=none/\e=.returned (.tuple #[.int .i64 0,.int .i64 0])/\at2=at_/\rest2=rest))
theorem Jl (K:PC) (at_:Nat) (bad:Bool) (rest:List Tk) (l:List (Bt×Int)) (bs bo:Nat) (w:World) (h:RAt w K at_ bad rest) (hs:Sgn w bs bo l) (hl:l.length<=4) (hbs:bs≠K.g/\bo≠K.g) :
  Calls Tryz.prog 165 #[.pointer (some ⟨K.g,0,none⟩),.slice (some ⟨bs,0,none⟩) l.length l.length,.slice (some ⟨bo,0,none⟩) l.length l.length] w (xvx K at_ bad rest l w):=by
 obtain⟨⟨rk,rn,rv,rt⟩,r,hxr⟩:=h.en.cons
 have HP:=Xj h
 have HS:=Xj hs
 have HKR:Xq (Yb rest=rn):=Xj (by rw[hxr];rfl)
 have HLK:Xq (∀ wx,RAt wx K at_ bad rest->Calls Tryz.prog 85 #[.pointer (some ⟨K.g,0,none⟩)] wx λ e w'=>e=.returned (.agg #[.int .i64 rk,.int .i64 rn,.int .i64 rv,.string (st rt)])/\Below wx.heap.size wx w'):=Xj (λ wx h=>Vm K at_ bad rk rn rv rt r wx (by rw[<- hxr];exact h))
 have hft:∀ W:World,(Instr.field 103 (.agg #[.int .i64 rk,.int .i64 rn,.int .i64 rv,.string (st rt)]) 1).run Tryz.prog W=.ok (.int .i64 rn) W:=λ _=>by kernel_rfl
 obtain⟨n,hn⟩:∃ n,l.length=n:=⟨_,rfl⟩
 have HN:=Xj hn
 rw[hn] at hl ⊢
 clear h hs hxr hn
 go_enter Tryz.func165,Tryz.ntmps165
 go_upto_block 0 with fail
 go_wp2_with fail
 go_loopw [8] (λ v8 wr=>∃ i:Nat,v8=.int .i64 (i:Int)/\i<=n/\Xq (Below w.heap.size w wr/\opF bad rest l=opF bad rest (l.drop i))) (λ v8 _=>n-xzg v8)
 case atStart=>exact⟨0,rfl,Nat.zero_le _,Xj ⟨Below.refl _ _,rfl⟩⟩
 rename World=>wa
 obtain⟨i,rfl,hin,HL⟩:=hrel
 have HPa:=Xj (HP.o.below HL.o.1)
 have HSa:=Xj (HS.o.below HL.o.1)
 by_cases hlt:i<n
 ·obtain⟨x,hx⟩:∃ x,l[i]?=some x:=⟨l[i]'(by rw[HN.o];exact hlt),List.getElem?_eq_getElem _⟩
  obtain⟨k1,k2⟩:=HSa.o.2.2 i x hx
  have HX:=Xj hx
  have hl1:=HSa.o.1
  have hl2:=HSa.o.2.1
  have hqm:(i:Int)<(n:Int):=by omega
  clear hx
  go_wp2_with fail
  refine(Wc K at_ bad rest x.1 _ HPa.o).mono ?_
  rintro e w2 ⟨rfl,hb2⟩
  have HB2:=Xj (HL.o.1.trans (hb2.mono HL.o.1.size))
  have HP2:=Xj (HP.o.below HB2.o)
  clear hb2 k1 k2
  cases hT:(!bad&&isT x.1 rest)
  ·have HT:=Xj hT
   (try rw[hT])
   clear hT
   go_wp2_with fail
   go_roundw
   case rel=>exact⟨i+1,by go_num,by omega,Xj ⟨HB2.o,by rw[HL.o.2];exact xxx HX.o HT.o⟩⟩
   simp[xzg];omega
  have HT:=Xj hT
  (try rw[hT])
  clear hT
  obtain⟨rfl,hT2⟩:bad=false/\isT x.1 rest=true:=by simpa using HT.o
  have HT2:=Xj hT2
  clear hT2
  go_wp2_with fail
  refine(HLK.o _ HP2.o).mono ?_
  rintro e w3 ⟨rfl,hb3⟩
  have HB3:=Xj (HB2.o.trans (hb3.mono HB2.o.size))
  have HP3:=Xj (HP.o.below HB3.o)
  clear hb3
  obtain⟨-,p1,-,f1,-,hlp⟩:=HP3.o.cells
  have hw1:IntKind.i64.wrap ((at_:Int)+1)=(at_:Int)+1:=by have:=HP3.o.n;have:=HP3.o.lt.1;rw[IntKind.wrap_i64];omega
  have k2:=(heap_setCell_other w3 ⟨K.g,1,none⟩ bo (.int .i64 ((at_:Int)+1)) hbs.2)
  have k3:=(World.cell?_of_block (a:=⟨bo,i,none⟩) k2).trans ((HS.o.below HB3.o).2.2 i x HX.o).2
  have hl3:=(HS.o.below HB3.o).2.1
  have HF:=Xj (And.intro (HP3.o.step (Qx HT2.o).2.2.1) (Xp (Xm HB3.o (some K.g)) (Xu w3 K.g 1 (.int .i64 ((at_:Int)+1)))))
  go_wp2_with fail
  refine bodyPost_ret (v:=.tuple #[.int .i64 x.2,.int .i64 rn]) (by simp[results,Tryz.results165,go_sem]) rfl ?_
  exact⟨at_+1,rest.tail,HF.o.1,HF.o.2,.inl ⟨x.2,by rw[HL.o.2];exact xjn HX.o HT.o,by rw[HKR.o],rfl,(Qx HT2.o).2.2.1,rfl,rfl⟩⟩
 obtain rfl:i=n:=by omega
 have HE:Xq (opF bad rest l=none):=Xj (by rw[HL.o.2,List.drop_of_length_le (by rw[HN.o];exact Nat.le_refl _)];rfl)
 go_wp2_with fail
 refine bodyPost_ret (v:=.tuple #[.int .i64 0,.int .i64 0]) (by simp[results,Tryz.results165,go_sem]) rfl ?_
 exact⟨at_,rest,HPa.o,Xm HL.o.1 (some K.g),.inr ⟨HE.o,rfl,rfl,rfl⟩⟩
theorem Jp {rest:List Tk} (h:Jd rest) {t:Bt} (ht:isW t=false):isT t rest=(kOf rest==4&&tOf rest==t):=by
 match rest,h with
 | [x],h =>
  have h0:x.k=0:=h
  simp[isT,kOf,h0]
 | x::y::r,h =>
  have h3:=h.1.2.1
  by_cases hk:x.k=3
  ·have hw:=h3 hk
   have:x.t≠t:=λ e=>by rw[e,ht] at hw;cases hw
   simp[isT,kOf,tOf,hk,this]
  have hk2:(x.k==3)=false:=by rw[beq_eq_false_iff_ne];exact hk
  simp only[isT,kOf,tOf,hk2,Bool.false_or]
theorem Sp {rest:List Tk} (h:Jd rest):opF false rest [([60],8),([60,61],9),([61,61],10),([33,61],11)]=(if Zv 8 11 rest=0 then none else some (Zv 8 11 rest)):=by
 have e1:=Jp h (t:=[60]) (by decide)
 have e2:=Jp h (t:=[60,61]) (by decide)
 have e3:=Jp h (t:=[61,61]) (by decide)
 have e4:=Jp h (t:=[33,61]) (by decide)
 obtain⟨x,r,rfl⟩:=h.cons
 simp only[opF,e1,e2,e3,e4,kOf,tOf,Zv]
 by_cases hk:x.k=4
 ·simp only[hk]
  unfold Qm
  by_cases a1:x.t=[60]
  ·simp[a1]
  by_cases a2:x.t=[60,61]
  ·simp[a2]
  by_cases a3:x.t=[61,61]
  ·simp[a3]
  by_cases a4:x.t=[33,61]
  ·simp[a4]
  have hv:(if x.t=[43] then (3:Int) else if x.t=[45] then 4 else if x.t=[42] then 5 else if x.t=[47] then 6 else if x.t=[37] then 7 else 0)<=7:=by
   repeat' split
   all_goals omega
  rw[if_neg a1,if_neg a2,if_neg a3,if_neg a4]
  generalize (if x.t=[43] then (3:Int) else if x.t=[45] then 4 else if x.t=[42] then 5 else if x.t=[47] then 6 else if x.t=[37] then 7 else 0)=v at hv ⊢
  have hn:¬ (8<=v):=by omega
  simp[a1,a2,a3,a4,hn]
 simp[hk]
theorem Sb {rest:List Tk} (h:Jd rest):opF false rest [([43],3),([45],4)]=(if Zv 3 4 rest=0 then none else some (Zv 3 4 rest)):=by
 have e0:=Jp h (t:=[43]) (by decide)
 have e1:=Jp h (t:=[45]) (by decide)
 obtain⟨x,r,rfl⟩:=h.cons
 simp only[opF,e0,e1,kOf,tOf,Zv]
 by_cases hk:x.k=4
 ·simp only[hk]
  by_cases a0:x.t=[43]
  ·simp[a0,Qm]
  by_cases a1:x.t=[45]
  ·simp[a1,Qm]
  have hv:Qm x.t<3\/4<Qm x.t:=by
   unfold Qm
   repeat' split
   all_goals first|omega|(rename_i hz;exact absurd hz a0)|(rename_i hz;exact absurd hz a1)
  generalize Qm x.t=v at hv ⊢
  have hn:¬ (3<=v/\v<=4):=by omega
  simp[a0,a1,hn]
 simp[hk]
theorem Mq {rest:List Tk} (h:Jd rest):opF false rest [([42],5),([47],6),([37],7)]=(if Zv 5 7 rest=0 then none else some (Zv 5 7 rest)):=by
 have e0:=Jp h (t:=[42]) (by decide)
 have e1:=Jp h (t:=[47]) (by decide)
 have e2:=Jp h (t:=[37]) (by decide)
 obtain⟨x,r,rfl⟩:=h.cons
 simp only[opF,e0,e1,e2,kOf,tOf,Zv]
 by_cases hk:x.k=4
 ·simp only[hk]
  by_cases a0:x.t=[42]
  ·simp[a0,Qm]
  by_cases a1:x.t=[47]
  ·simp[a1,Qm]
  by_cases a2:x.t=[37]
  ·simp[a2,Qm]
  have hv:Qm x.t<5\/7<Qm x.t:=by
   unfold Qm
   repeat' split
   all_goals first|omega|(rename_i hz;exact absurd hz a0)|(rename_i hz;exact absurd hz a1)|(rename_i hz;exact absurd hz a2)
  generalize Qm x.t=v at hv ⊢
  have hn:¬ (5<=v/\v<=7):=by omega
  simp[a0,a1,a2,hn]
 simp[hk]
section
structure RS (K:PC) (w wx:World) (at_:Nat) (bad:Bool) (r:List Tk):Prop where
 pat:RAt wx K at_ bad r
 gr:w.grownBy wx (some K.g)
 gl:K.g<w.heap.size
 tl:∀ x,K.al=some x->x.block<w.heap.size
section
variable {K:PC} {w wx wy:World} {at_ at2:Nat} {bad bad2:Bool} {r r2:List Tk}
theorem RS.init (h:RAt w K at_ bad r):RS K w w at_ bad r:=by
 refine⟨h,⟨rfl,rfl,rfl,Nat.le_refl _,λ _ _ _=>rfl⟩,h.glt,λ x hx=>?_⟩
 obtain⟨y,s,b,off,_,e,hb,_⟩:=h.tok
 rw[e] at hx
 injection hx with hx
 subst hx
 exact hb
theorem RS.be (h:RS K w wx at_ bad r) (hb:Below wx.heap.size wx wy):RS K w wy at_ bad r:=⟨h.pat.below hb,Xp h.gr (Xm hb _),h.gl,h.tl⟩
theorem RS.al (h:RS K w wx at_ bad r) (o:Obj):RS K w (wx.alloc o) at_ bad r:=h.be (Xw wx o)
theorem RS.sc (h:RS K w wx at_ bad r) {p:Addr} (hp:w.heap.size<=p.block) (v:Value):RS K w (wx.setCell p v) at_ bad r :=
 have hg:wx.grownBy (wx.setCell p v) (some p.block):=⟨rfl,rfl,rfl,by simp[World.setCell],λ k hk hn=>heap_setCell_other wx p k v (λ e=>hn (by rw[e]))⟩
 ⟨h.pat.grown hg (λ k e=>by injection e with e;subst e;exact⟨by have:=h.gl;omega,λ x hx=>by have:=h.tl x hx;omega⟩),Yu h.gr hp,h.gl,h.tl⟩
theorem RS.s6 (h:RS K w wx at_ bad r) {b:Nat} (hb:w.heap.size<=b) (v0 v1 v2 v3 v4 v5:Value):RS K w (set6 wx b v0 v1 v2 v3 v4 v5) at_ bad r :=
 (((((h.sc (p:=⟨b,0,none⟩) hb v0).sc (p:=⟨b,1,none⟩) hb v1).sc (p:=⟨b,2,none⟩) hb v2).sc (p:=⟨b,3,none⟩) hb v3).sc (p:=⟨b,4,none⟩) hb v4).sc (p:=⟨b,5,none⟩) hb v5
theorem RS.step (h:RS K w wx at_ bad r) (hk:kOf r≠0):RS K w (wx.setCell ⟨K.g,1,none⟩ (.int .i64 ((at_:Int)+1))) (at_+1) bad r.tail:=⟨h.pat.step hk,Xp h.gr (Xu wx K.g 1 _),h.gl,h.tl⟩
theorem RS.call (h:RS K w wx at_ bad r) (hp:RAt wy K at2 bad2 r2) (hg:wx.grownBy wy (some K.g)):RS K w wy at2 bad2 r2:=⟨hp,Xp h.gr hg,h.gl,h.tl⟩
theorem RS.w1 (h:RS K w wx at_ bad r):IntKind.i64.wrap ((at_:Int)+1)=(at_:Int)+1:=by
 have:=h.pat.lt.1
 have:=h.pat.n
 rw[IntKind.wrap_i64];omega
end
theorem RAt.natAt {w:World} {K:PC} {at_:Nat} {bad:Bool} {rest:List Tk} (h:RAt w K at_ bad rest):Go.Proofs.YtldgghnjminhiaaGreatDoor.natAt w K.g=at_:=by
 unfold Go.Proofs.YtldgghnjminhiaaGreatDoor.natAt
 rw[h.cells.2.1]
 simp
theorem CQ.mono {f:FuncId} {lv:Lv} {m n:Nat} (h:CQ f lv m) (hn:n<=m):CQ f lv n:=λ K at_ bad rest w hp hl=>h K at_ bad rest w hp (Nat.le_trans hl hn)
def CL (lv:Lv) (L:Fo->Lv) (rest:List Tk) (x:Fo) (r:List Tk):Prop:=∀ z,Ps (L x) r z->Ps lv rest z
structure LQ (K:PC) (w:World) (gR gx:Nat) (lv:Lv) (C:Fo->List Tk->Prop) (at_:Nat) (bad:Bool) (rest:List Tk) (h:Hd) (a:Option Addr) (n c:Nat) (bad2:Bool) (at2:Nat) (r:List Tk) (wr:World):Prop where
 ms:RS K w wr at2 bad2 r
 rc:Lc wr gR zhd (.slice none 0 0)
 xc:Lc wr gx h (.slice a n c)
 le:r.length<=rest.length
 res:(bad=false/\bad2=false/\∃ ar,C (Xb h ar) r/\Xk wr (TBk w gR gx) ar (.slice a n c)/\r.length<rest.length)\/(bad=false/\bad2=true/\Ps lv rest (.bad r))\/(bad=true/\bad2=true/\at2=at_/\r=rest)
structure LN (K:PC) (w:World) (gR gx:Nat) (lv:Lv) (C:Fo->List Tk->Prop) (rest:List Tk) (h:Hd) (a:Option Addr) (n c:Nat) (at2:Nat) (r:List Tk) (ar:Fo) (wd:World):Prop where
 ms:RS K w wd (at2+1) false r.tail
 rc:Lc wd gR zhd (.slice none 0 0)
 xc:Lc wd gx h (.slice a n c)
 co:C (Xb h ar) r
 ar:Xk wd (TBk w gR gx) ar (.slice a n c)
 lt:r.length<rest.length
 tl:r.tail.length<r.length
 b1:w.heap.size<=gR
 b2:gR<gx
section
variable {K:PC} {w wr wz:World} {gR gx:Nat} {lv:Lv} {C:Fo->List Tk->Prop} {at_:Nat} {bad:Bool} {rest:List Tk} {h:Hd} {a:Option Addr} {n c:Nat} {bad2:Bool} {at2:Nat} {r:List Tk}
theorem LQ.be (H:LQ K w gR gx lv C at_ bad rest h a n c bad2 at2 r wr) (hz:Below wr.heap.size wr wz):LQ K w gR gx lv C at_ bad rest h a n c bad2 at2 r wz :=
 ⟨H.ms.be hz,H.rc.be hz,H.xc.be hz,H.le,by
  rcases H.res with⟨h1,h2,ar,h3,h4,h5⟩|hr
  ·exact .inl ⟨h1,h2,ar,h3,h4.keep (λ b hb hlt=>⟨hz.block b hlt,hb⟩) hz.size,h5⟩
  exact .inr hr⟩
theorem LQ.fin (H:LQ K w gR gx lv C at_ bad rest h a n c bad2 at2 r wr) (b1:w.heap.size<=gR) (hqp:bad2=false->∀ F,C F r->Ps lv rest (.ok F r)) :
  EQ K lv at_ bad rest w (.returned (exv h (.slice a n c))) (set6 wr gR (.int .i64 h.k) (.int .i64 h.op) (.int .i64 h.v) (.int .i64 h.ln) (.string (st h.nm)) (.slice a n c)) /\
  Lc (set6 wr gR (.int .i64 h.k) (.int .i64 h.op) (.int .i64 h.v) (.int .i64 h.ln) (.string (st h.nm)) (.slice a n c)) gR h (.slice a n c):=by
 have hms:=H.ms.s6 b1 (.int .i64 h.k) (.int .i64 h.op) (.int .i64 h.v) (.int .i64 h.ln) (.string (st h.nm)) (.slice a n c)
 refine⟨⟨h,a,n,c,bad2,at2,r,rfl,hms.pat,H.le,hms.gr,Xj ?_⟩,H.rc.s6 h (.slice a n c)⟩
 rcases H.res with⟨h1,h2,ar,h3,h4,h5⟩|hr|hr
 ·exact .inl ⟨h1,h2,ar,hqp h2 _ h3,Xg (Yz h4 (λ b hb=>hb.2.1)) (λ b hb _=>hb.1),h5⟩
 ·exact .inr (.inl hr)
 exact .inr (.inr hr)
theorem LQ.stp (H:LQ K w gR gx lv C at_ bad rest h a n c false at2 r wr) (b1:w.heap.size<=gR) (b2:gR<gx) (hk:kOf r≠0):bad=false/\∃ ar,LN K w gR gx lv C rest h a n c at2 r ar ((wr.setCell ⟨K.g,1,none⟩ (.int .i64 ((at2:Int)+1))).drew):=by
 have hgl:=H.ms.gl
 rcases H.res with⟨h1,h2,ar,h3,h4,h5⟩|⟨_,h2,_⟩|⟨_,h2,_⟩
 ·refine⟨h1,ar,(H.ms.step hk).be (Below.refl _ _).drew,(H.rc.s1 (p:=⟨K.g,1,none⟩) (v:=.int .i64 ((at2:Int)+1)) (by show gR≠K.g;omega)).be (Below.refl _ _).drew,(H.xc.s1 (p:=⟨K.g,1,none⟩) (v:=.int .i64 ((at2:Int)+1)) (by show gx≠K.g;omega)).be (Below.refl _ _).drew,h3,?_,h5,?_,b1,b2⟩
  ·exact(Kn (p:=⟨K.g,1,none⟩) (v:=.int .i64 ((at2:Int)+1)) h4 (λ b hb=>by show b≠K.g;have:=hb.1;omega)).keep (λ b hb hlt=>⟨rfl,hb⟩) (Nat.le_refl _)
  cases r with
  | nil=>exact absurd rfl hk
  | cons x r=>simp
 ·cases h2
 cases h2
theorem LN.fin {ar:Fo} {wd w7 w8:World} {lvc:Lv} {h2:Hd} {a2:Option Addr} {n2 c2:Nat} {bad7:Bool} {at7 g:Nat} {r7:List Tk} {k op ln:Int} (H:LN K w gR gx lv C rest h a n c at2 r ar wd) (hp7:RAt w7 K at7 bad7 r7) (He:r7.length<=r.tail.length) (hg7:wd.grownBy w7 (some K.g))
  (Ha:(false=false/\bad7=false/\∃ ar2,Ps lvc r.tail (.ok (Xb h2 ar2) r7)/\Xk w7 (λ b=>wd.heap.size<=b) ar2 (.slice a2 n2 c2)/\r7.length<r.tail.length)\/(false=false/\bad7=true/\Ps lvc r.tail (.bad r7))\/(false=true/\bad7=true/\at7=at2+1/\r7=r.tail))
  (hb8:Below w7.heap.size w7 w8) (hjx:∀ (P:Nat->Prop) (b1 b2:Fo),Xk w7 P b1 (.slice a n c)->Xk w7 P b2 (.slice a2 n2 c2)->Xk w8 (UpB w7 P) ((Xb h b1).app (Xb h2 b2)) (.slice (some ⟨g,0,none⟩) 2 2))
  (hok:∀ ar2,Ps lvc r.tail (.ok (Xb h2 ar2) r7)->C (Xb h ar) r->C (Xb ⟨k,op,0,ln,[]⟩ ((Xb h ar).app (Xb h2 ar2))) r7) (hqs:Ps lvc r.tail (.bad r7)->C (Xb h ar) r->Ps lv rest (.bad r7)) :
  LQ K w gR gx lv C at_ false rest ⟨k,op,0,ln,[]⟩ (some ⟨g,0,none⟩) 2 2 bad7 at7 r7 (set6 w8 gx (.int .i64 k) (.int .i64 op) (.int .i64 0) (.int .i64 ln) (.string { data := #[] }) (.slice (some ⟨g,0,none⟩) 2 2))/\at2<at7:=by
 have hgl:=H.ms.gl
 have hb1:=H.b1
 have hb2:=H.b2
 have hw7:=H.ms.call hp7 hg7
 have xc7:=H.xc.gr hg7 (by omega)
 have rc7:=H.rc.gr hg7 (by omega)
 have hsz7:=hg7.size
 have hlx:=H.xc.lt
 have htl:=H.tl
 have hlt:=H.lt
 refine⟨⟨(hw7.be hb8).s6 (b:=gx) (by omega) _ _ _ _ _ _,(rc7.be hb8).s6o (by omega),(xc7.be hb8).s6 ⟨k,op,0,ln,[]⟩ (.slice (some ⟨g,0,none⟩) 2 2),by omega,?_⟩,?_⟩
 ·rcases Ha with⟨_,h1,ar2,h2',h3,h4⟩|⟨_,h1,h2'⟩|⟨h1,_⟩
  ·refine .inl ⟨rfl,h1,(Xb h ar).app (Xb h2 ar2),hok ar2 h2' H.co,?_,by omega⟩
   have m1:=Zu H.ar hg7 (λ b hb=>by have:=hb.1;omega)
   have m2:=Xg (Q:=TBk w gR gx) h3 (λ b hb _=>⟨by have:=H.ms.gr.size;omega,by omega,by omega⟩)
   have m:=hjx (TBk w gR gx) ar ar2 m1 m2
   exact Yz (Xg m (λ b hb _=>by
    rcases hb with⟨hb,_⟩|hb
    ·exact hb
    exact⟨by have:=hw7.gr.size;omega,by omega,by omega⟩)) (λ b hb=>hb.2.2)
  ·exact .inr (.inl ⟨rfl,h1,hqs h2' H.co⟩)
  cases h1
 have e1:=hp7.lt.2
 have e2:=H.ms.pat.lt.2
 have:at2+1<=at7:=by omega
 omega
theorem LQ.yes {w4:World} (H:LQ K w gR gx lv C at_ bad rest h a n c false at2 r wr) (hp:RAt w4 K (at2+1) false r.tail) (hg:wr.grownBy w4 (some K.g)) (b1:w.heap.size<=gR) (b2:gR<gx) (hk:kOf r≠0):bad=false/\∃ ar,LN K w gR gx lv C rest h a n c at2 r ar w4:=by
 have hgl:=H.ms.gl
 rcases H.res with⟨h1,h2,ar,h3,h4,h5⟩|⟨_,h2,_⟩|⟨_,h2,_⟩
 ·refine⟨h1,ar,H.ms.call hp hg,H.rc.gr hg (by omega),H.xc.gr hg (by omega),h3,Zu h4 hg (λ b hb=>by have:=hb.1;omega),h5,?_,b1,b2⟩
  cases r with
  | nil=>exact absurd rfl hk
  | cons x r=>simp
 ·cases h2
 cases h2
theorem LQ.no {w4:World} (H:LQ K w gR gx lv C at_ bad rest h a n c bad2 at2 r wr) (hp:RAt w4 K at2 bad2 r) (hg:wr.grownBy w4 (some K.g)) (b1:w.heap.size<=gR) (b2:gR<gx):LQ K w gR gx lv C at_ bad rest h a n c bad2 at2 r w4:=by
 have hgl:=H.ms.gl
 refine⟨H.ms.call hp hg,H.rc.gr hg (by omega),H.xc.gr hg (by omega),H.le,?_⟩
 rcases H.res with⟨h1,h2,ar,h3,h4,h5⟩|hr
 ·exact .inl ⟨h1,h2,ar,h3,Zu h4 hg (λ b hb=>by have:=hb.1;omega),h5⟩
 exact .inr hr
theorem LN.be {ar:Fo} {wd we:World} (H:LN K w gR gx lv C rest h a n c at2 r ar wd) (hz:Below wd.heap.size wd we):LN K w gR gx lv C rest h a n c at2 r ar we :=
 ⟨H.ms.be hz,H.rc.be hz,H.xc.be hz,H.co,H.ar.keep (λ b hb hlt=>⟨hz.block b hlt,hb⟩) hz.size,H.lt,H.tl,H.b1,H.b2⟩
theorem LN.ret {ar:Fo} {wd w7 w8:World} {lvc:Lv} {h2:Hd} {a2:Option Addr} {n2 c2:Nat} {bad7:Bool} {at7 g:Nat} {r7:List Tk} {k op ln:Int} (H:LN K w gR gx lv C rest h a n c at2 r ar wd) (hp7:RAt w7 K at7 bad7 r7) (He:r7.length<=r.tail.length) (hg7:wd.grownBy w7 (some K.g))
  (Ha:(false=false/\bad7=false/\∃ ar2,Ps lvc r.tail (.ok (Xb h2 ar2) r7)/\Xk w7 (λ b=>wd.heap.size<=b) ar2 (.slice a2 n2 c2)/\r7.length<r.tail.length)\/(false=false/\bad7=true/\Ps lvc r.tail (.bad r7))\/(false=true/\bad7=true/\at7=at2+1/\r7=r.tail))
  (hb8:Below w7.heap.size w7 w8) (hjx:∀ (P:Nat->Prop) (b1 b2:Fo),Xk w7 P b1 (.slice a n c)->Xk w7 P b2 (.slice a2 n2 c2)->Xk w8 (UpB w7 P) ((Xb h b1).app (Xb h2 b2)) (.slice (some ⟨g,0,none⟩) 2 2))
  (hok:∀ ar2,Ps lvc r.tail (.ok (Xb h2 ar2) r7)->C (Xb h ar) r->Ps lv rest (.ok (Xb ⟨k,op,0,ln,[]⟩ ((Xb h ar).app (Xb h2 ar2))) r7)) (hqs:Ps lvc r.tail (.bad r7)->C (Xb h ar) r->Ps lv rest (.bad r7)) :
  EQ K lv at_ false rest w (.returned (exv ⟨k,op,0,ln,[]⟩ (.slice (some ⟨g,0,none⟩) 2 2))) (set6 w8 gR (.int .i64 k) (.int .i64 op) (.int .i64 0) (.int .i64 ln) (.string { data := #[] }) (.slice (some ⟨g,0,none⟩) 2 2)) /\
  Lc (set6 w8 gR (.int .i64 k) (.int .i64 op) (.int .i64 0) (.int .i64 ln) (.string { data := #[] }) (.slice (some ⟨g,0,none⟩) 2 2)) gR ⟨k,op,0,ln,[]⟩ (.slice (some ⟨g,0,none⟩) 2 2):=by
 have hgl:=H.ms.gl
 have hb1:=H.b1
 have hb2:=H.b2
 have hw7:=H.ms.call hp7 hg7
 have rc7:=H.rc.gr hg7 (by omega)
 have hsz7:=hg7.size
 have hlr:=H.rc.lt
 have htl:=H.tl
 have hlt:=H.lt
 have hms:=(hw7.be hb8).s6 (b:=gR) hb1 (.int .i64 k) (.int .i64 op) (.int .i64 0) (.int .i64 ln) (.string { data := #[] }) (.slice (some ⟨g,0,none⟩) 2 2)
 refine⟨⟨⟨k,op,0,ln,[]⟩,some ⟨g,0,none⟩,2,2,bad7,at7,r7,rfl,hms.pat,by omega,hms.gr,Xj ?_⟩,(rc7.be hb8).s6 ⟨k,op,0,ln,[]⟩ _⟩
 rcases Ha with⟨_,h1,ar2,h2',h3,h4⟩|⟨_,h1,h2'⟩|⟨h1,_⟩
 ·refine .inl ⟨rfl,h1,(Xb h ar).app (Xb h2 ar2),hok ar2 h2' H.co,?_,by omega⟩
  have m1:=Zu H.ar hg7 (λ b hb=>by have:=hb.1;omega)
  have m2:=Xg (Q:=TBk w gR gx) h3 (λ b hb _=>⟨by have:=H.ms.gr.size;omega,by omega,by have:=H.xc.lt;omega⟩)
  have m:=hjx (TBk w gR gx) ar ar2 m1 m2
  refine Xg (Yz (Xg (Q:=λ b=>w.heap.size<=b/\b≠gR) m (λ b hb _=>?_)) (λ b hb=>hb.2)) (λ b hb _=>hb.1)
  rcases hb with⟨hb,_⟩|hb
  ·exact⟨hb.1,hb.2.1⟩
  exact⟨by have:=hw7.gr.size;omega,by omega⟩
 ·exact .inr (.inl ⟨rfl,h1,hqs h2' H.co⟩)
 cases h1
end
theorem Gu {x o:Int} (h:(if x=0 then none else some x)=some o):x≠0/\x=o:=by
 split at h
 ·cases h
 rename_i hx
 injection h with h
 exact⟨hx,h⟩
theorem Df {x:Int} (h:(if x=0 then none else some x)=none):x=0:=by
 split at h
 ·assumption
 cases h
theorem Sgn.new (w:World) (l:List (Bt×Int)) (ts ti:TypeId):Sgn ((w.alloc (.cells (l.map (λ x=>Value.string (st x.1))).toArray ts)).alloc (.cells (l.map (λ x=>Value.int .i64 x.2)).toArray ti)) w.heap.size (w.heap.size+1) l:=by
 refine⟨by simp;omega,by simp,λ j x hj=>⟨?_,?_⟩⟩
 ·exact Xc _ (Ty w _ ts rfl (by simp[hj]))
 exact Ty _ _ ti (by simp) (by simp[hj])
end
theorem Fp (m:Nat) (hA:CQ 83 .an m):CQ 49 .ex m:=by
 intro K at_ bad rest w hP hm
 have HM1:=Xj ((RS.init hP).al zex)
 have HR1:=Xj (Lc.zero w)
 have HA:=Xj hA
 have HMm:=Xj hm
 clear hA hP hm
 go_enter Tryz.func49,Tryz.ntmps49
 go_upto_region 1 with fail
 obtain⟨w1,hw1⟩:∃ W,w.alloc zex=W:=⟨_,rfl⟩
 obtain⟨gR,hgR⟩:∃ x,w.heap.size=x:=⟨_,rfl⟩
 (try rw[show w.alloc (.cells #[.int .i64 0,.int .i64 0,.int .i64 0,.int .i64 0,.string { data := #[] },.slice none 0 0] 37)=w1 from hw1])
 rw[hw1] at HM1 HR1
 rw[hgR] at HR1
 (try rw[hgR])
 have HGR:=Xj hgR
 have HS1:Xq (w1.heap.size=gR+1):=Xj (by rw[<- hw1,<- hgR];simp)
 clear hw1 hgR
 go_wp2_with fail
 refine(HA.o K at_ bad rest _ HM1.o.pat HMm.o).mono ?_
 rintro e w2 ⟨h,a,n,c,bad2,at2,r,rfl,hp2,hjy,hg2,Ha⟩
 have HM2:=Xj (HM1.o.call hp2 hg2)
 have HR2:=Xj (HR1.o.gr hg2 (by have:=HM1.o.gl;have:=HGR.o;omega))
 have hs2:=hg2.size
 have HL3:Xq (LQ K w gR w2.heap.size .ex (CL .ex .exL rest) at_ bad rest h a n c bad2 at2 r (w2.alloc (.cells (ecs h (.slice a n c)) 37))):=Xj ⟨HM2.o.al _,HR2.o.al _,Lc.new w2 h (.slice a n c),hjy,by
  rcases Ha.o with⟨h1,h1',ar,h2,h3,h4⟩|⟨h1,h1',h2⟩|hr
  ·exact .inl ⟨h1,h1',ar,λ z hz=>Ps.ex_ok h2 hz,Xg (Yr _ h3) (λ b hb _=>⟨by have:=hb.1;have:=HS1.o;have:=HGR.o;omega,by have:=hb.1;have:=HS1.o;omega,hb.2⟩),h4⟩
  ·exact .inr (.inl ⟨h1,h1',Ps.ex_bad h2⟩)
  exact .inr (.inr hr)⟩
 clear Ha hp2 hg2
 go_upto_block 0 with fail
 obtain⟨w3,hw3⟩:∃ W,w2.alloc (.cells (ecs h (.slice a n c)) 37)=W:=⟨_,rfl⟩
 obtain⟨gx,hgx⟩:∃ x,w2.heap.size=x:=⟨_,rfl⟩
 (try rw[show w2.alloc (.cells #[.int .i64 h.k,.int .i64 h.op,.int .i64 h.v,.int .i64 h.ln,.string (st h.nm),.slice a n c] 37)=w3 from hw3])
 rw[hw3,hgx] at HL3
 (try rw[hgx])
 have HGX:Xq (gR<gx):=Xj (by have:=HS1.o;omega)
 clear hw3 hgx hs2 hjy HM2 HR2 HM1 HR1
 go_wp2_with fail
 go_loopw [4] (λ _ wr=>∃ (h:Hd) (a:Option Addr) (n c:Nat) (bad2:Bool) (at2:Nat) (r:List Tk),Xq (LQ K w gR gx .ex (CL .ex .exL rest) at_ bad rest h a n c bad2 at2 r wr)) (λ _ wr=>K.ts.length-natAt wr K.g)
 case atStart=>exact⟨h,a,n,c,bad2,at2,r,HL3⟩
 rename World=>wa
 obtain⟨h,a,n,c,bad2,at2,r,HL⟩:=hrel
 have hgg:=HL.o.ms.gl
 go_wp2_with fail
 refine(Wc K at2 bad2 r [124,124] _ HL.o.ms.pat).mono ?_
 rintro e w4 ⟨rfl,hb4⟩
 have HL4:=Xj (HL.o.be hb4)
 clear hb4
 cases hT:(!bad2&&isT [124,124] r)
 ·have HF:=Xj (HL4.o.fin (by have:=HGR.o;omega) (λ hb F hc=>hc _ (Ps.exL_end (by rw[hb] at hT;simpa using hT))))
  (try rw[hT])
  clear hT
  obtain⟨x0,x1,x2,x3,x4,x5⟩:=HL4.o.xc.cells
  obtain⟨y0,y1,y2,y3,y4,y5⟩:=HL4.o.rc.cells
  obtain⟨g0,g1,g2,g3,g4,g5⟩:=HL4.o.rc.froz
  have hlR:=HL4.o.rc.lt
  have hlX:=HL4.o.xc.lt
  go_wp2_with fail
  obtain⟨wz,hwz⟩:∃ W,set6 w4 gR (.int .i64 h.k) (.int .i64 h.op) (.int .i64 h.v) (.int .i64 h.ln) (.string (st h.nm)) (.slice a n c)=W:=⟨_,rfl⟩
  have hY:=hwz
  unfold set6 at hY
  (try rw[hY])
  rw[hwz] at HF
  obtain⟨d0,d1,d2,d3,d4,d5⟩:=HF.o.2.cells
  refine bodyPost_ret (v:=exv h (.slice a n c)) (by simp[results,Tryz.results49,go_sem,d0,d1,d2,d3,d4,d5]) rfl ?_
  exact HF.o.1
 obtain⟨rfl,hT2⟩:bad2=false/\isT [124,124] r=true:=by simpa using hT
 have HT:=Xj hT2
 (try rw[hT])
 clear hT hT2
 obtain⟨⟨tk,tn,tv,tt⟩,r0,hr0⟩:=HL4.o.ms.pat.en.cons
 have HLO:=Xj (Vm K at2 false tk tn tv tt r0 w4 (hr0▸HL4.o.ms.pat))
 have HLN:Xq (Yb r=tn):=Xj (by rw[hr0];rfl)
 have hfd:∀ W:World,(Instr.field 103 (.agg #[.int .i64 tk,.int .i64 tn,.int .i64 tv,.string (st tt)]) 1).run Tryz.prog W=.ok (.int .i64 tn) W:=λ _=>by kernel_rfl
 clear hr0
 go_wp2_with fail
 refine HLO.o.mono ?_
 rintro e w5 ⟨rfl,hb5⟩
 have HL5:=Xj (HL4.o.be hb5)
 obtain⟨rfl,ar,hn⟩:=HL5.o.stp (by have:=HGR.o;omega) HGX.o (Qx HT.o).2.2.1
 have HN:=Xj hn
 clear hb5 hn
 obtain⟨-,p1,-,f1,-,hlp⟩:=HL5.o.ms.pat.cells
 have hw1:=HL5.o.ms.w1
 go_upto_region 5 with fail
 obtain⟨wd,hwd⟩:∃ W,(w5.setCell ⟨K.g,1,none⟩ (.int .i64 ((at2:Int)+1))).drew=W:=⟨_,rfl⟩
 rw[hwd] at HN
 clear p1 f1 hlp hw1 HLO
 refine wp_region_held_drew (S:=λ _=>True) (by kernel_rfl) trivial (λ hJ=>?_)
 (try rw[hwd])
 clear hwd
 refine tkH 0 19 ?_
 refine tkH 2 21 ?_
 refine wpAnyH_ready (rs:=[1,3]) (by kernel_rfl) (by simp) ?_
 refine AllReadyH.cons rfl (λ K0 hK=>?_) (AllReadyH.cons rfl (λ K0 hK=>?_) AllReadyH.nil)
 ·obtain⟨x0,x1,x2,x3,x4,x5⟩:=HN.o.xc.cells
  have hlX:=HN.o.xc.lt
  go_simp
  refine hK.out _ _ trivial (λ _=>?_)
  clear hK K0
  refine Xz ?_
  clear x0 x1 x2 x3 x4 x5 hlX
  refine rdH 3 λ K0 hK=>?_
  go_simp
  refine(HA.o K (at2+1) false r.tail _ HN.o.ms.pat (by have h1:=HN.o.lt;have h2:=HN.o.tl;have h3:rest.length<=m:=HMm.o;show r.tail.length<=m;omega)).mono ?_
  rintro e w7 ⟨h2,a2,n2,c2,bad7,at7,r7,rfl,hp7,He,hg7,hI⟩
  have HX7:=Xj (HN.o.xc.gr hg7 (by have:=HN.o.b1;have:=HN.o.b2;have:=HN.o.ms.gl;omega))
  have H7:=Xj (And.intro hp7 (And.intro He hg7))
  refine hK.out _ _ trivial (λ _=>?_)
  clear hK K0
  refine Xz ?_
  clear hp7 He hg7
  refine rdH 4 λ K0 hK=>?_
  go_simp
  refine(Jh 8 0 tn h h2 a a2 n c n2 c2 w7).mono ?_
  rintro e w8 ⟨g,rfl,hb8,hjx⟩
  have HX8:=Xj (HX7.o.be hb8)
  have HF:Xq (∀ W,W=(set6 w8 gx (.int .i64 8) (.int .i64 0) (.int .i64 0) (.int .i64 tn) (.string { data := #[] }) (.slice (some ⟨g,0,none⟩) 2 2))->LQ K w gR gx .ex (CL .ex .exL rest) at_ false rest ⟨8,0,0,tn,[]⟩ (some ⟨g,0,none⟩) 2 2 bad7 at7 r7 W/\at2<at7):=Xj (λ W hW=>by
   subst hW
   exact HN.o.fin H7.o.1 H7.o.2.1 H7.o.2.2 hI.o hb8 hjx.o (λ ar2 k1 kc z k2=>kc _ (Ps.exL_ok HT.o k1 (by rw[HLN.o];exact k2))) (λ k1 kc=>kc _ (Ps.exL_bad HT.o k1)))
  refine hK.out _ _ trivial (λ _=>?_)
  clear hK K0
  refine Xz ?_
  clear hb8
  refine rdH 5 λ K0 hK=>?_
  obtain⟨x0,x1,x2,x3,x4,x5⟩:=HX8.o.cells
  obtain⟨g0,g1,g2,g3,g4,g5⟩:=HX8.o.froz
  have hlX:=HX8.o.lt
  go_simp
  refine hK.out _ _ trivial (λ _=>?_)
  clear hK K0
  refine Xz ?_
  refine wpAnyH_done (by kernel_rfl) ?_ _
  refine Xz ?_
  go_wp2_with fail
  go_roundw
  case rel=>exact⟨_,some ⟨g,0,none⟩,2,2,bad7,at7,r7,Xj (HF.o _ rfl).1⟩
  have h1:=(HF.o _ rfl).1.ms.pat.natAt
  have h2:=(HF.o _ rfl).2
  have h3:=HL.o.ms.pat.natAt
  have h4:=HL.o.ms.pat.lt.1
  unfold set6 at h1
  rw[h3]
  first|(rw[h1];omega)|(simp at h1;rw[h1];omega)
 go_simp
 refine(HA.o K (at2+1) false r.tail _ HN.o.ms.pat (by have h1:=HN.o.lt;have h2:=HN.o.tl;have h3:rest.length<=m:=HMm.o;show r.tail.length<=m;omega)).mono ?_
 rintro e w7 ⟨h2,a2,n2,c2,bad7,at7,r7,rfl,hp7,He,hg7,hI⟩
 have HX7:=Xj (HN.o.xc.gr hg7 (by have:=HN.o.b1;have:=HN.o.b2;have:=HN.o.ms.gl;omega))
 have H7:=Xj (And.intro hp7 (And.intro He hg7))
 refine hK.out _ _ trivial (λ _=>?_)
 clear hK K0
 refine Xz ?_
 clear hp7 He hg7
 refine rdH 1 λ K0 hK=>?_
 obtain⟨x0,x1,x2,x3,x4,x5⟩:=HX7.o.cells
 have hlX:=HX7.o.lt
 go_simp
 refine hK.out _ _ trivial (λ _=>?_)
 clear hK K0
 refine Xz ?_
 clear x0 x1 x2 x3 x4 x5 hlX
 refine rdH 4 λ K0 hK=>?_
 go_simp
 refine(Jh 8 0 tn h h2 a a2 n c n2 c2 w7).mono ?_
 rintro e w8 ⟨g,rfl,hb8,hjx⟩
 have HX8:=Xj (HX7.o.be hb8)
 have HF:Xq (∀ W,W=(set6 w8 gx (.int .i64 8) (.int .i64 0) (.int .i64 0) (.int .i64 tn) (.string { data := #[] }) (.slice (some ⟨g,0,none⟩) 2 2))->LQ K w gR gx .ex (CL .ex .exL rest) at_ false rest ⟨8,0,0,tn,[]⟩ (some ⟨g,0,none⟩) 2 2 bad7 at7 r7 W/\at2<at7):=Xj (λ W hW=>by
  subst hW
  exact HN.o.fin H7.o.1 H7.o.2.1 H7.o.2.2 hI.o hb8 hjx.o (λ ar2 k1 kc z k2=>kc _ (Ps.exL_ok HT.o k1 (by rw[HLN.o];exact k2))) (λ k1 kc=>kc _ (Ps.exL_bad HT.o k1)))
 refine hK.out _ _ trivial (λ _=>?_)
 clear hK K0
 refine Xz ?_
 clear hb8
 refine rdH 5 λ K0 hK=>?_
 obtain⟨x0,x1,x2,x3,x4,x5⟩:=HX8.o.cells
 obtain⟨g0,g1,g2,g3,g4,g5⟩:=HX8.o.froz
 have hlX:=HX8.o.lt
 go_simp
 refine hK.out _ _ trivial (λ _=>?_)
 clear hK K0
 refine Xz ?_
 refine wpAnyH_done (by kernel_rfl) ?_ _
 refine Xz ?_
 go_wp2_with fail
 go_roundw
 case rel=>exact⟨_,some ⟨g,0,none⟩,2,2,bad7,at7,r7,Xj (HF.o _ rfl).1⟩
 have h1:=(HF.o _ rfl).1.ms.pat.natAt
 have h2:=(HF.o _ rfl).2
 have h3:=HL.o.ms.pat.natAt
 have h4:=HL.o.ms.pat.lt.1
 unfold set6 at h1
 rw[h3]
 first|(rw[h1];omega)|(simp at h1;rw[h1];omega)
theorem xjc (m:Nat) (hA:CQ 137 .cm m):CQ 83 .an m:=by
 intro K at_ bad rest w hP hm
 have HM1:=Xj ((RS.init hP).al zex)
 have HR1:=Xj (Lc.zero w)
 have HA:=Xj hA
 have HMm:=Xj hm
 clear hA hP hm
 go_enter Tryz.func83,Tryz.ntmps83
 go_upto_region 1 with fail
 obtain⟨w1,hw1⟩:∃ W,w.alloc zex=W:=⟨_,rfl⟩
 obtain⟨gR,hgR⟩:∃ x,w.heap.size=x:=⟨_,rfl⟩
 (try rw[show w.alloc (.cells #[.int .i64 0,.int .i64 0,.int .i64 0,.int .i64 0,.string { data := #[] },.slice none 0 0] 37)=w1 from hw1])
 rw[hw1] at HM1 HR1
 rw[hgR] at HR1
 (try rw[hgR])
 have HGR:=Xj hgR
 have HS1:Xq (w1.heap.size=gR+1):=Xj (by rw[<- hw1,<- hgR];simp)
 clear hw1 hgR
 go_wp2_with fail
 refine(HA.o K at_ bad rest _ HM1.o.pat HMm.o).mono ?_
 rintro e w2 ⟨h,a,n,c,bad2,at2,r,rfl,hp2,hjy,hg2,Ha⟩
 have HM2:=Xj (HM1.o.call hp2 hg2)
 have HR2:=Xj (HR1.o.gr hg2 (by have:=HM1.o.gl;have:=HGR.o;omega))
 have hs2:=hg2.size
 have HL3:Xq (LQ K w gR w2.heap.size .an (CL .an .anL rest) at_ bad rest h a n c bad2 at2 r (w2.alloc (.cells (ecs h (.slice a n c)) 37))):=Xj ⟨HM2.o.al _,HR2.o.al _,Lc.new w2 h (.slice a n c),hjy,by
  rcases Ha.o with⟨h1,h1',ar,h2,h3,h4⟩|⟨h1,h1',h2⟩|hr
  ·exact .inl ⟨h1,h1',ar,λ z hz=>Ps.an_ok h2 hz,Xg (Yr _ h3) (λ b hb _=>⟨by have:=hb.1;have:=HS1.o;have:=HGR.o;omega,by have:=hb.1;have:=HS1.o;omega,hb.2⟩),h4⟩
  ·exact .inr (.inl ⟨h1,h1',Ps.an_bad h2⟩)
  exact .inr (.inr hr)⟩
 clear Ha hp2 hg2
 go_upto_block 0 with fail
 obtain⟨w3,hw3⟩:∃ W,w2.alloc (.cells (ecs h (.slice a n c)) 37)=W:=⟨_,rfl⟩
 obtain⟨gx,hgx⟩:∃ x,w2.heap.size=x:=⟨_,rfl⟩
 (try rw[show w2.alloc (.cells #[.int .i64 h.k,.int .i64 h.op,.int .i64 h.v,.int .i64 h.ln,.string (st h.nm),.slice a n c] 37)=w3 from hw3])
 rw[hw3,hgx] at HL3
 (try rw[hgx])
 have HGX:Xq (gR<gx):=Xj (by have:=HS1.o;omega)
 clear hw3 hgx hs2 hjy HM2 HR2 HM1 HR1
 go_wp2_with fail
 go_loopw [4] (λ _ wr=>∃ (h:Hd) (a:Option Addr) (n c:Nat) (bad2:Bool) (at2:Nat) (r:List Tk),Xq (LQ K w gR gx .an (CL .an .anL rest) at_ bad rest h a n c bad2 at2 r wr)) (λ _ wr=>K.ts.length-natAt wr K.g)
 case atStart=>exact⟨h,a,n,c,bad2,at2,r,HL3⟩
 rename World=>wa
 obtain⟨h,a,n,c,bad2,at2,r,HL⟩:=hrel
 have hgg:=HL.o.ms.gl
 go_wp2_with fail
 refine(Wc K at2 bad2 r [38,38] _ HL.o.ms.pat).mono ?_
 rintro e w4 ⟨rfl,hb4⟩
 have HL4:=Xj (HL.o.be hb4)
 clear hb4
 cases hT:(!bad2&&isT [38,38] r)
 ·have HF:=Xj (HL4.o.fin (by have:=HGR.o;omega) (λ hb F hc=>hc _ (Ps.anL_end (by rw[hb] at hT;simpa using hT))))
  (try rw[hT])
  clear hT
  obtain⟨x0,x1,x2,x3,x4,x5⟩:=HL4.o.xc.cells
  obtain⟨y0,y1,y2,y3,y4,y5⟩:=HL4.o.rc.cells
  obtain⟨g0,g1,g2,g3,g4,g5⟩:=HL4.o.rc.froz
  have hlR:=HL4.o.rc.lt
  have hlX:=HL4.o.xc.lt
  go_wp2_with fail
  obtain⟨wz,hwz⟩:∃ W,set6 w4 gR (.int .i64 h.k) (.int .i64 h.op) (.int .i64 h.v) (.int .i64 h.ln) (.string (st h.nm)) (.slice a n c)=W:=⟨_,rfl⟩
  have hY:=hwz
  unfold set6 at hY
  (try rw[hY])
  rw[hwz] at HF
  obtain⟨d0,d1,d2,d3,d4,d5⟩:=HF.o.2.cells
  refine bodyPost_ret (v:=exv h (.slice a n c)) (by simp[results,Tryz.results83,go_sem,d0,d1,d2,d3,d4,d5]) rfl ?_
  exact HF.o.1
 obtain⟨rfl,hT2⟩:bad2=false/\isT [38,38] r=true:=by simpa using hT
 have HT:=Xj hT2
 (try rw[hT])
 clear hT hT2
 obtain⟨⟨tk,tn,tv,tt⟩,r0,hr0⟩:=HL4.o.ms.pat.en.cons
 have HLO:=Xj (Vm K at2 false tk tn tv tt r0 w4 (hr0▸HL4.o.ms.pat))
 have HLN:Xq (Yb r=tn):=Xj (by rw[hr0];rfl)
 have hfd:∀ W:World,(Instr.field 103 (.agg #[.int .i64 tk,.int .i64 tn,.int .i64 tv,.string (st tt)]) 1).run Tryz.prog W=.ok (.int .i64 tn) W:=λ _=>by kernel_rfl
 clear hr0
 go_wp2_with fail
 refine HLO.o.mono ?_
 rintro e w5 ⟨rfl,hb5⟩
 have HL5:=Xj (HL4.o.be hb5)
 obtain⟨rfl,ar,hn⟩:=HL5.o.stp (by have:=HGR.o;omega) HGX.o (Qx HT.o).2.2.1
 have HN:=Xj hn
 clear hb5 hn
 obtain⟨-,p1,-,f1,-,hlp⟩:=HL5.o.ms.pat.cells
 have hw1:=HL5.o.ms.w1
 go_upto_region 5 with fail
 obtain⟨wd,hwd⟩:∃ W,(w5.setCell ⟨K.g,1,none⟩ (.int .i64 ((at2:Int)+1))).drew=W:=⟨_,rfl⟩
 rw[hwd] at HN
 clear p1 f1 hlp hw1 HLO
 refine wp_region_held_drew (S:=λ _=>True) (by kernel_rfl) trivial (λ hJ=>?_)
 (try rw[hwd])
 clear hwd
 refine tkH 0 19 ?_
 refine tkH 2 21 ?_
 refine wpAnyH_ready (rs:=[1,3]) (by kernel_rfl) (by simp) ?_
 refine AllReadyH.cons rfl (λ K0 hK=>?_) (AllReadyH.cons rfl (λ K0 hK=>?_) AllReadyH.nil)
 ·obtain⟨x0,x1,x2,x3,x4,x5⟩:=HN.o.xc.cells
  have hlX:=HN.o.xc.lt
  go_simp
  refine hK.out _ _ trivial (λ _=>?_)
  clear hK K0
  refine Xz ?_
  clear x0 x1 x2 x3 x4 x5 hlX
  refine rdH 3 λ K0 hK=>?_
  go_simp
  refine(HA.o K (at2+1) false r.tail _ HN.o.ms.pat (by have h1:=HN.o.lt;have h2:=HN.o.tl;have h3:rest.length<=m:=HMm.o;show r.tail.length<=m;omega)).mono ?_
  rintro e w7 ⟨h2,a2,n2,c2,bad7,at7,r7,rfl,hp7,He,hg7,hI⟩
  have HX7:=Xj (HN.o.xc.gr hg7 (by have:=HN.o.b1;have:=HN.o.b2;have:=HN.o.ms.gl;omega))
  have H7:=Xj (And.intro hp7 (And.intro He hg7))
  refine hK.out _ _ trivial (λ _=>?_)
  clear hK K0
  refine Xz ?_
  clear hp7 He hg7
  refine rdH 4 λ K0 hK=>?_
  go_simp
  refine(Jh 7 0 tn h h2 a a2 n c n2 c2 w7).mono ?_
  rintro e w8 ⟨g,rfl,hb8,hjx⟩
  have HX8:=Xj (HX7.o.be hb8)
  have HF:Xq (∀ W,W=(set6 w8 gx (.int .i64 7) (.int .i64 0) (.int .i64 0) (.int .i64 tn) (.string { data := #[] }) (.slice (some ⟨g,0,none⟩) 2 2))->LQ K w gR gx .an (CL .an .anL rest) at_ false rest ⟨7,0,0,tn,[]⟩ (some ⟨g,0,none⟩) 2 2 bad7 at7 r7 W/\at2<at7):=Xj (λ W hW=>by
   subst hW
   exact HN.o.fin H7.o.1 H7.o.2.1 H7.o.2.2 hI.o hb8 hjx.o (λ ar2 k1 kc z k2=>kc _ (Ps.anL_ok HT.o k1 (by rw[HLN.o];exact k2))) (λ k1 kc=>kc _ (Ps.anL_bad HT.o k1)))
  refine hK.out _ _ trivial (λ _=>?_)
  clear hK K0
  refine Xz ?_
  clear hb8
  refine rdH 5 λ K0 hK=>?_
  obtain⟨x0,x1,x2,x3,x4,x5⟩:=HX8.o.cells
  obtain⟨g0,g1,g2,g3,g4,g5⟩:=HX8.o.froz
  have hlX:=HX8.o.lt
  go_simp
  refine hK.out _ _ trivial (λ _=>?_)
  clear hK K0
  refine Xz ?_
  refine wpAnyH_done (by kernel_rfl) ?_ _
  refine Xz ?_
  go_wp2_with fail
  go_roundw
  case rel=>exact⟨_,some ⟨g,0,none⟩,2,2,bad7,at7,r7,Xj (HF.o _ rfl).1⟩
  have h1:=(HF.o _ rfl).1.ms.pat.natAt
  have h2:=(HF.o _ rfl).2
  have h3:=HL.o.ms.pat.natAt
  have h4:=HL.o.ms.pat.lt.1
  unfold set6 at h1
  rw[h3]
  first|(rw[h1];omega)|(simp at h1;rw[h1];omega)
 go_simp
 refine(HA.o K (at2+1) false r.tail _ HN.o.ms.pat (by have h1:=HN.o.lt;have h2:=HN.o.tl;have h3:rest.length<=m:=HMm.o;show r.tail.length<=m;omega)).mono ?_
 rintro e w7 ⟨h2,a2,n2,c2,bad7,at7,r7,rfl,hp7,He,hg7,hI⟩
 have HX7:=Xj (HN.o.xc.gr hg7 (by have:=HN.o.b1;have:=HN.o.b2;have:=HN.o.ms.gl;omega))
 have H7:=Xj (And.intro hp7 (And.intro He hg7))
 refine hK.out _ _ trivial (λ _=>?_)
 clear hK K0
 refine Xz ?_
 clear hp7 He hg7
 refine rdH 1 λ K0 hK=>?_
 obtain⟨x0,x1,x2,x3,x4,x5⟩:=HX7.o.cells
 have hlX:=HX7.o.lt
 go_simp
 refine hK.out _ _ trivial (λ _=>?_)
 clear hK K0
 refine Xz ?_
 clear x0 x1 x2 x3 x4 x5 hlX
 refine rdH 4 λ K0 hK=>?_
 go_simp
 refine(Jh 7 0 tn h h2 a a2 n c n2 c2 w7).mono ?_
 rintro e w8 ⟨g,rfl,hb8,hjx⟩
 have HX8:=Xj (HX7.o.be hb8)
 have HF:Xq (∀ W,W=(set6 w8 gx (.int .i64 7) (.int .i64 0) (.int .i64 0) (.int .i64 tn) (.string { data := #[] }) (.slice (some ⟨g,0,none⟩) 2 2))->LQ K w gR gx .an (CL .an .anL rest) at_ false rest ⟨7,0,0,tn,[]⟩ (some ⟨g,0,none⟩) 2 2 bad7 at7 r7 W/\at2<at7):=Xj (λ W hW=>by
  subst hW
  exact HN.o.fin H7.o.1 H7.o.2.1 H7.o.2.2 hI.o hb8 hjx.o (λ ar2 k1 kc z k2=>kc _ (Ps.anL_ok HT.o k1 (by rw[HLN.o];exact k2))) (λ k1 kc=>kc _ (Ps.anL_bad HT.o k1)))
 refine hK.out _ _ trivial (λ _=>?_)
 clear hK K0
 refine Xz ?_
 clear hb8
 refine rdH 5 λ K0 hK=>?_
 obtain⟨x0,x1,x2,x3,x4,x5⟩:=HX8.o.cells
 obtain⟨g0,g1,g2,g3,g4,g5⟩:=HX8.o.froz
 have hlX:=HX8.o.lt
 go_simp
 refine hK.out _ _ trivial (λ _=>?_)
 clear hK K0
 refine Xz ?_
 refine wpAnyH_done (by kernel_rfl) ?_ _
 refine Xz ?_
 go_wp2_with fail
 go_roundw
 case rel=>exact⟨_,some ⟨g,0,none⟩,2,2,bad7,at7,r7,Xj (HF.o _ rfl).1⟩
 have h1:=(HF.o _ rfl).1.ms.pat.natAt
 have h2:=(HF.o _ rfl).2
 have h3:=HL.o.ms.pat.natAt
 have h4:=HL.o.ms.pat.lt.1
 unfold set6 at h1
 rw[h3]
 first|(rw[h1];omega)|(simp at h1;rw[h1];omega)
theorem xjm (m:Nat) (hA:CQ 183 .te m):CQ 164 .su m:=by
 intro K at_ bad rest w hP hm
 have HM1:=Xj ((RS.init hP).al zex)
 have HR1:=Xj (Lc.zero w)
 have HA:=Xj hA
 have HMm:=Xj hm
 clear hA hP hm
 go_enter Tryz.func164,Tryz.ntmps164
 go_upto_region 1 with fail
 obtain⟨w1,hw1⟩:∃ W,w.alloc zex=W:=⟨_,rfl⟩
 obtain⟨gR,hgR⟩:∃ x,w.heap.size=x:=⟨_,rfl⟩
 (try rw[show w.alloc (.cells #[.int .i64 0,.int .i64 0,.int .i64 0,.int .i64 0,.string { data := #[] },.slice none 0 0] 37)=w1 from hw1])
 rw[hw1] at HM1 HR1
 rw[hgR] at HR1
 (try rw[hgR])
 have HGR:=Xj hgR
 have HS1:Xq (w1.heap.size=gR+1):=Xj (by rw[<- hw1,<- hgR];simp)
 clear hw1 hgR
 go_wp2_with fail
 refine(HA.o K at_ bad rest _ HM1.o.pat HMm.o).mono ?_
 rintro e w2 ⟨h,a,n,c,bad2,at2,r,rfl,hp2,hjy,hg2,Ha⟩
 have HM2:=Xj (HM1.o.call hp2 hg2)
 have HR2:=Xj (HR1.o.gr hg2 (by have:=HM1.o.gl;have:=HGR.o;omega))
 have hs2:=hg2.size
 have HL3:Xq (LQ K w gR w2.heap.size .su (CL .su .suL rest) at_ bad rest h a n c bad2 at2 r (w2.alloc (.cells (ecs h (.slice a n c)) 37))):=Xj ⟨HM2.o.al _,HR2.o.al _,Lc.new w2 h (.slice a n c),hjy,by
  rcases Ha.o with⟨h1,h1',ar,h2,h3,h4⟩|⟨h1,h1',h2⟩|hr
  ·exact .inl ⟨h1,h1',ar,λ z hz=>Ps.su_ok h2 hz,Xg (Yr _ h3) (λ b hb _=>⟨by have:=hb.1;have:=HS1.o;have:=HGR.o;omega,by have:=hb.1;have:=HS1.o;omega,hb.2⟩),h4⟩
  ·exact .inr (.inl ⟨h1,h1',Ps.su_bad h2⟩)
  exact .inr (.inr hr)⟩
 clear Ha hp2 hg2
 go_upto_block 0 with fail
 obtain⟨w3,hw3⟩:∃ W,w2.alloc (.cells (ecs h (.slice a n c)) 37)=W:=⟨_,rfl⟩
 obtain⟨gx,hgx⟩:∃ x,w2.heap.size=x:=⟨_,rfl⟩
 (try rw[show w2.alloc (.cells #[.int .i64 h.k,.int .i64 h.op,.int .i64 h.v,.int .i64 h.ln,.string (st h.nm),.slice a n c] 37)=w3 from hw3])
 rw[hw3,hgx] at HL3
 (try rw[hgx])
 have HGX:Xq (gR<gx):=Xj (by have:=HS1.o;omega)
 clear hw3 hgx hs2 hjy HM2 HR2 HM1 HR1
 go_wp2_with fail
 go_loopw [4] (λ _ wr=>∃ (h:Hd) (a:Option Addr) (n c:Nat) (bad2:Bool) (at2:Nat) (r:List Tk),Xq (LQ K w gR gx .su (CL .su .suL rest) at_ bad rest h a n c bad2 at2 r wr)) (λ _ wr=>K.ts.length-natAt wr K.g)
 case atStart=>exact⟨h,a,n,c,bad2,at2,r,HL3⟩
 rename World=>wa
 obtain⟨h,a,n,c,bad2,at2,r,HL⟩:=hrel
 have hgg:=HL.o.ms.gl
 have hsg:=Sgn.new wa [([43],3),([45],4)] 9 3
 have HBB:=Xj ((Xw wa (.cells #[.string { data := #[43] },.string { data := #[45] }] 9)).alloc (by simp) (.cells #[.int .i64 3,.int .i64 4] 3))
 have HLB:=Xj (HL.o.be HBB.o)
 have HRO:=Xj (Jl K at2 bad2 r [([43],3),([45],4)] wa.heap.size (wa.heap.size+1) _ HLB.o.ms.pat hsg (by decide) ⟨by have:=HL.o.ms.pat.glt;omega,by have:=HL.o.ms.pat.glt;omega⟩)
 clear hsg
 go_wp2_with fail
 refine HRO.o.mono ?_
 rintro e w4 ⟨at4,r4,hp4,hg4,hc⟩
 rcases hc with⟨o,ho,rfl,rfl,hk,rfl,rfl⟩|⟨ho,rfl,rfl,rfl⟩
 ·obtain⟨rfl,ar,hn⟩:=HLB.o.yes hp4 hg4 (by have:=HGR.o;omega) HGX.o hk
  have HN:=Xj (hn.be (Below.refl _ _).drew)
  obtain⟨ho1,ho2⟩:=Gu ((Sb HLB.o.ms.pat.en).symm.trans ho)
  have HT:=Xj (And.intro ho1 ho2)
  have dop:(o==0)=false:=by rw[beq_eq_false_iff_ne,<- ho2];exact ho1
  clear ho hk hp4 hg4 hn ho1 ho2 HLB HBB HRO
  obtain⟨tn,htn⟩:∃ x,Yb r=x:=⟨_,rfl⟩
  have HLN:=Xj htn
  (try rw[htn])
  clear htn
  go_upto_region 5 with fail
  obtain⟨wd,hwd⟩:∃ W,w4.drew=W:=⟨_,rfl⟩
  rw[hwd] at HN
  clear dop
  refine wp_region_held_drew (S:=λ _=>True) (by kernel_rfl) trivial (λ hJ=>?_)
  (try rw[hwd])
  clear hwd
  refine tkH 0 18 ?_
  refine tkH 1 19 ?_
  refine tkH 3 21 ?_
  refine wpAnyH_ready (rs:=[2,4]) (by kernel_rfl) (by simp) ?_
  refine AllReadyH.cons rfl (λ K0 hK=>?_) (AllReadyH.cons rfl (λ K0 hK=>?_) AllReadyH.nil)
  ·obtain⟨x0,x1,x2,x3,x4,x5⟩:=HN.o.xc.cells
   have hlX:=HN.o.xc.lt
   go_simp
   refine hK.out _ _ trivial (λ _=>?_)
   clear hK K0
   refine Xz ?_
   clear x0 x1 x2 x3 x4 x5 hlX
   refine rdH 4 λ K0 hK=>?_
   go_simp
   refine(HA.o K (at2+1) false r.tail _ HN.o.ms.pat (by have h1:=HN.o.lt;have h2:=HN.o.tl;have h3:rest.length<=m:=HMm.o;show r.tail.length<=m;omega)).mono ?_
   rintro e w7 ⟨h2,a2,n2,c2,bad7,at7,r7,rfl,hp7,He,hg7,hI⟩
   have HX7:=Xj (HN.o.xc.gr hg7 (by have:=HN.o.b1;have:=HN.o.b2;have:=HN.o.ms.gl;omega))
   have H7:=Xj (And.intro hp7 (And.intro He hg7))
   refine hK.out _ _ trivial (λ _=>?_)
   clear hK K0
   refine Xz ?_
   clear hp7 He hg7
   refine rdH 5 λ K0 hK=>?_
   go_simp
   refine(Jh 6 o tn h h2 a a2 n c n2 c2 w7).mono ?_
   rintro e w8 ⟨g,rfl,hb8,hjx⟩
   have HX8:=Xj (HX7.o.be hb8)
   have HF:Xq (∀ W,W=(set6 w8 gx (.int .i64 6) (.int .i64 o) (.int .i64 0) (.int .i64 tn) (.string { data := #[] }) (.slice (some ⟨g,0,none⟩) 2 2))->LQ K w gR gx .su (CL .su .suL rest) at_ false rest ⟨6,o,0,tn,[]⟩ (some ⟨g,0,none⟩) 2 2 bad7 at7 r7 W/\at2<at7):=Xj (λ W hW=>by
    subst hW
    exact HN.o.fin H7.o.1 H7.o.2.1 H7.o.2.2 hI.o hb8 hjx.o (λ ar2 k1 kc z k2=>kc _ (Ps.suL_ok HT.o.1 k1 (by rw[HLN.o,HT.o.2];exact k2))) (λ k1 kc=>kc _ (Ps.suL_bad HT.o.1 k1)))
   refine hK.out _ _ trivial (λ _=>?_)
   clear hK K0
   refine Xz ?_
   clear hb8
   refine rdH 6 λ K0 hK=>?_
   obtain⟨x0,x1,x2,x3,x4,x5⟩:=HX8.o.cells
   obtain⟨g0,g1,g2,g3,g4,g5⟩:=HX8.o.froz
   have hlX:=HX8.o.lt
   go_simp
   refine hK.out _ _ trivial (λ _=>?_)
   clear hK K0
   refine Xz ?_
   refine wpAnyH_done (by kernel_rfl) ?_ _
   refine Xz ?_
   go_wp2_with fail
   go_roundw
   case rel=>exact⟨_,some ⟨g,0,none⟩,2,2,bad7,at7,r7,Xj (HF.o _ rfl).1⟩
   have h1:=(HF.o _ rfl).1.ms.pat.natAt
   have h2:=(HF.o _ rfl).2
   have h3:=HL.o.ms.pat.natAt
   have h4:=HL.o.ms.pat.lt.1
   unfold set6 at h1
   rw[h3]
   first|(rw[h1];omega)|(simp at h1;rw[h1];omega)
  go_simp
  refine(HA.o K (at2+1) false r.tail _ HN.o.ms.pat (by have h1:=HN.o.lt;have h2:=HN.o.tl;have h3:rest.length<=m:=HMm.o;show r.tail.length<=m;omega)).mono ?_
  rintro e w7 ⟨h2,a2,n2,c2,bad7,at7,r7,rfl,hp7,He,hg7,hI⟩
  have HX7:=Xj (HN.o.xc.gr hg7 (by have:=HN.o.b1;have:=HN.o.b2;have:=HN.o.ms.gl;omega))
  have H7:=Xj (And.intro hp7 (And.intro He hg7))
  refine hK.out _ _ trivial (λ _=>?_)
  clear hK K0
  refine Xz ?_
  clear hp7 He hg7
  refine rdH 2 λ K0 hK=>?_
  obtain⟨x0,x1,x2,x3,x4,x5⟩:=HX7.o.cells
  have hlX:=HX7.o.lt
  go_simp
  refine hK.out _ _ trivial (λ _=>?_)
  clear hK K0
  refine Xz ?_
  clear x0 x1 x2 x3 x4 x5 hlX
  refine rdH 5 λ K0 hK=>?_
  go_simp
  refine(Jh 6 o tn h h2 a a2 n c n2 c2 w7).mono ?_
  rintro e w8 ⟨g,rfl,hb8,hjx⟩
  have HX8:=Xj (HX7.o.be hb8)
  have HF:Xq (∀ W,W=(set6 w8 gx (.int .i64 6) (.int .i64 o) (.int .i64 0) (.int .i64 tn) (.string { data := #[] }) (.slice (some ⟨g,0,none⟩) 2 2))->LQ K w gR gx .su (CL .su .suL rest) at_ false rest ⟨6,o,0,tn,[]⟩ (some ⟨g,0,none⟩) 2 2 bad7 at7 r7 W/\at2<at7):=Xj (λ W hW=>by
   subst hW
   exact HN.o.fin H7.o.1 H7.o.2.1 H7.o.2.2 hI.o hb8 hjx.o (λ ar2 k1 kc z k2=>kc _ (Ps.suL_ok HT.o.1 k1 (by rw[HLN.o,HT.o.2];exact k2))) (λ k1 kc=>kc _ (Ps.suL_bad HT.o.1 k1)))
  refine hK.out _ _ trivial (λ _=>?_)
  clear hK K0
  refine Xz ?_
  clear hb8
  refine rdH 6 λ K0 hK=>?_
  obtain⟨x0,x1,x2,x3,x4,x5⟩:=HX8.o.cells
  obtain⟨g0,g1,g2,g3,g4,g5⟩:=HX8.o.froz
  have hlX:=HX8.o.lt
  go_simp
  refine hK.out _ _ trivial (λ _=>?_)
  clear hK K0
  refine Xz ?_
  refine wpAnyH_done (by kernel_rfl) ?_ _
  refine Xz ?_
  go_wp2_with fail
  go_roundw
  case rel=>exact⟨_,some ⟨g,0,none⟩,2,2,bad7,at7,r7,Xj (HF.o _ rfl).1⟩
  have h1:=(HF.o _ rfl).1.ms.pat.natAt
  have h2:=(HF.o _ rfl).2
  have h3:=HL.o.ms.pat.natAt
  have h4:=HL.o.ms.pat.lt.1
  unfold set6 at h1
  rw[h3]
  first|(rw[h1];omega)|(simp at h1;rw[h1];omega)
 have HL4:=Xj (HLB.o.no hp4 hg4 (by have:=HGR.o;omega) HGX.o)
 have HF:=Xj (HL4.o.fin (by have:=HGR.o;omega) (λ hb F hc=>hc _ (Ps.suL_end (by subst hb;exact Df ((Sb HLB.o.ms.pat.en).symm.trans ho)))))
 clear ho hp4 hg4 HLB HBB HRO
 obtain⟨x0,x1,x2,x3,x4,x5⟩:=HL4.o.xc.cells
 obtain⟨y0,y1,y2,y3,y4,y5⟩:=HL4.o.rc.cells
 obtain⟨g0,g1,g2,g3,g4,g5⟩:=HL4.o.rc.froz
 have hlR:=HL4.o.rc.lt
 have hlX:=HL4.o.xc.lt
 go_wp2_with fail
 obtain⟨wz,hwz⟩:∃ W,set6 w4 gR (.int .i64 h.k) (.int .i64 h.op) (.int .i64 h.v) (.int .i64 h.ln) (.string (st h.nm)) (.slice a n c)=W:=⟨_,rfl⟩
 have hY:=hwz
 unfold set6 at hY
 (try rw[hY])
 rw[hwz] at HF
 obtain⟨d0,d1,d2,d3,d4,d5⟩:=HF.o.2.cells
 refine bodyPost_ret (v:=exv h (.slice a n c)) (by simp[results,Tryz.results164,go_sem,d0,d1,d2,d3,d4,d5]) rfl ?_
 exact HF.o.1
theorem Fb (m:Nat) (hA:CQ 198 .un m):CQ 183 .te m:=by
 intro K at_ bad rest w hP hm
 have HM1:=Xj ((RS.init hP).al zex)
 have HR1:=Xj (Lc.zero w)
 have HA:=Xj hA
 have HMm:=Xj hm
 clear hA hP hm
 go_enter Tryz.func183,Tryz.ntmps183
 go_upto_region 1 with fail
 obtain⟨w1,hw1⟩:∃ W,w.alloc zex=W:=⟨_,rfl⟩
 obtain⟨gR,hgR⟩:∃ x,w.heap.size=x:=⟨_,rfl⟩
 (try rw[show w.alloc (.cells #[.int .i64 0,.int .i64 0,.int .i64 0,.int .i64 0,.string { data := #[] },.slice none 0 0] 37)=w1 from hw1])
 rw[hw1] at HM1 HR1
 rw[hgR] at HR1
 (try rw[hgR])
 have HGR:=Xj hgR
 have HS1:Xq (w1.heap.size=gR+1):=Xj (by rw[<- hw1,<- hgR];simp)
 clear hw1 hgR
 go_wp2_with fail
 refine(HA.o K at_ bad rest _ HM1.o.pat HMm.o).mono ?_
 rintro e w2 ⟨h,a,n,c,bad2,at2,r,rfl,hp2,hjy,hg2,Ha⟩
 have HM2:=Xj (HM1.o.call hp2 hg2)
 have HR2:=Xj (HR1.o.gr hg2 (by have:=HM1.o.gl;have:=HGR.o;omega))
 have hs2:=hg2.size
 have HL3:Xq (LQ K w gR w2.heap.size .te (CL .te .teL rest) at_ bad rest h a n c bad2 at2 r (w2.alloc (.cells (ecs h (.slice a n c)) 37))):=Xj ⟨HM2.o.al _,HR2.o.al _,Lc.new w2 h (.slice a n c),hjy,by
  rcases Ha.o with⟨h1,h1',ar,h2,h3,h4⟩|⟨h1,h1',h2⟩|hr
  ·exact .inl ⟨h1,h1',ar,λ z hz=>Ps.te_ok h2 hz,Xg (Yr _ h3) (λ b hb _=>⟨by have:=hb.1;have:=HS1.o;have:=HGR.o;omega,by have:=hb.1;have:=HS1.o;omega,hb.2⟩),h4⟩
  ·exact .inr (.inl ⟨h1,h1',Ps.te_bad h2⟩)
  exact .inr (.inr hr)⟩
 clear Ha hp2 hg2
 go_upto_block 0 with fail
 obtain⟨w3,hw3⟩:∃ W,w2.alloc (.cells (ecs h (.slice a n c)) 37)=W:=⟨_,rfl⟩
 obtain⟨gx,hgx⟩:∃ x,w2.heap.size=x:=⟨_,rfl⟩
 (try rw[show w2.alloc (.cells #[.int .i64 h.k,.int .i64 h.op,.int .i64 h.v,.int .i64 h.ln,.string (st h.nm),.slice a n c] 37)=w3 from hw3])
 rw[hw3,hgx] at HL3
 (try rw[hgx])
 have HGX:Xq (gR<gx):=Xj (by have:=HS1.o;omega)
 clear hw3 hgx hs2 hjy HM2 HR2 HM1 HR1
 go_wp2_with fail
 go_loopw [4] (λ _ wr=>∃ (h:Hd) (a:Option Addr) (n c:Nat) (bad2:Bool) (at2:Nat) (r:List Tk),Xq (LQ K w gR gx .te (CL .te .teL rest) at_ bad rest h a n c bad2 at2 r wr)) (λ _ wr=>K.ts.length-natAt wr K.g)
 case atStart=>exact⟨h,a,n,c,bad2,at2,r,HL3⟩
 rename World=>wa
 obtain⟨h,a,n,c,bad2,at2,r,HL⟩:=hrel
 have hgg:=HL.o.ms.gl
 have hsg:=Sgn.new wa [([42],5),([47],6),([37],7)] 9 3
 have HBB:=Xj ((Xw wa (.cells #[.string { data := #[42] },.string { data := #[47] },.string { data := #[37] }] 9)).alloc (by simp) (.cells #[.int .i64 5,.int .i64 6,.int .i64 7] 3))
 have HLB:=Xj (HL.o.be HBB.o)
 have HRO:=Xj (Jl K at2 bad2 r [([42],5),([47],6),([37],7)] wa.heap.size (wa.heap.size+1) _ HLB.o.ms.pat hsg (by decide) ⟨by have:=HL.o.ms.pat.glt;omega,by have:=HL.o.ms.pat.glt;omega⟩)
 clear hsg
 go_wp2_with fail
 refine HRO.o.mono ?_
 rintro e w4 ⟨at4,r4,hp4,hg4,hc⟩
 rcases hc with⟨o,ho,rfl,rfl,hk,rfl,rfl⟩|⟨ho,rfl,rfl,rfl⟩
 ·obtain⟨rfl,ar,hn⟩:=HLB.o.yes hp4 hg4 (by have:=HGR.o;omega) HGX.o hk
  have HN:=Xj (hn.be (Below.refl _ _).drew)
  obtain⟨ho1,ho2⟩:=Gu ((Mq HLB.o.ms.pat.en).symm.trans ho)
  have HT:=Xj (And.intro ho1 ho2)
  have dop:(o==0)=false:=by rw[beq_eq_false_iff_ne,<- ho2];exact ho1
  clear ho hk hp4 hg4 hn ho1 ho2 HLB HBB HRO
  obtain⟨tn,htn⟩:∃ x,Yb r=x:=⟨_,rfl⟩
  have HLN:=Xj htn
  (try rw[htn])
  clear htn
  go_upto_region 5 with fail
  obtain⟨wd,hwd⟩:∃ W,w4.drew=W:=⟨_,rfl⟩
  rw[hwd] at HN
  clear dop
  refine wp_region_held_drew (S:=λ _=>True) (by kernel_rfl) trivial (λ hJ=>?_)
  (try rw[hwd])
  clear hwd
  refine tkH 0 18 ?_
  refine tkH 1 19 ?_
  refine tkH 3 21 ?_
  refine wpAnyH_ready (rs:=[2,4]) (by kernel_rfl) (by simp) ?_
  refine AllReadyH.cons rfl (λ K0 hK=>?_) (AllReadyH.cons rfl (λ K0 hK=>?_) AllReadyH.nil)
  ·obtain⟨x0,x1,x2,x3,x4,x5⟩:=HN.o.xc.cells
   have hlX:=HN.o.xc.lt
   go_simp
   refine hK.out _ _ trivial (λ _=>?_)
   clear hK K0
   refine Xz ?_
   clear x0 x1 x2 x3 x4 x5 hlX
   refine rdH 4 λ K0 hK=>?_
   go_simp
   refine(HA.o K (at2+1) false r.tail _ HN.o.ms.pat (by have h1:=HN.o.lt;have h2:=HN.o.tl;have h3:rest.length<=m:=HMm.o;show r.tail.length<=m;omega)).mono ?_
   rintro e w7 ⟨h2,a2,n2,c2,bad7,at7,r7,rfl,hp7,He,hg7,hI⟩
   have HX7:=Xj (HN.o.xc.gr hg7 (by have:=HN.o.b1;have:=HN.o.b2;have:=HN.o.ms.gl;omega))
   have H7:=Xj (And.intro hp7 (And.intro He hg7))
   refine hK.out _ _ trivial (λ _=>?_)
   clear hK K0
   refine Xz ?_
   clear hp7 He hg7
   refine rdH 5 λ K0 hK=>?_
   go_simp
   refine(Jh 6 o tn h h2 a a2 n c n2 c2 w7).mono ?_
   rintro e w8 ⟨g,rfl,hb8,hjx⟩
   have HX8:=Xj (HX7.o.be hb8)
   have HF:Xq (∀ W,W=(set6 w8 gx (.int .i64 6) (.int .i64 o) (.int .i64 0) (.int .i64 tn) (.string { data := #[] }) (.slice (some ⟨g,0,none⟩) 2 2))->LQ K w gR gx .te (CL .te .teL rest) at_ false rest ⟨6,o,0,tn,[]⟩ (some ⟨g,0,none⟩) 2 2 bad7 at7 r7 W/\at2<at7):=Xj (λ W hW=>by
    subst hW
    exact HN.o.fin H7.o.1 H7.o.2.1 H7.o.2.2 hI.o hb8 hjx.o (λ ar2 k1 kc z k2=>kc _ (Ps.teL_ok HT.o.1 k1 (by rw[HLN.o,HT.o.2];exact k2))) (λ k1 kc=>kc _ (Ps.teL_bad HT.o.1 k1)))
   refine hK.out _ _ trivial (λ _=>?_)
   clear hK K0
   refine Xz ?_
   clear hb8
   refine rdH 6 λ K0 hK=>?_
   obtain⟨x0,x1,x2,x3,x4,x5⟩:=HX8.o.cells
   obtain⟨g0,g1,g2,g3,g4,g5⟩:=HX8.o.froz
   have hlX:=HX8.o.lt
   go_simp
   refine hK.out _ _ trivial (λ _=>?_)
   clear hK K0
   refine Xz ?_
   refine wpAnyH_done (by kernel_rfl) ?_ _
   refine Xz ?_
   go_wp2_with fail
   go_roundw
   case rel=>exact⟨_,some ⟨g,0,none⟩,2,2,bad7,at7,r7,Xj (HF.o _ rfl).1⟩
   have h1:=(HF.o _ rfl).1.ms.pat.natAt
   have h2:=(HF.o _ rfl).2
   have h3:=HL.o.ms.pat.natAt
   have h4:=HL.o.ms.pat.lt.1
   unfold set6 at h1
   rw[h3]
   first|(rw[h1];omega)|(simp at h1;rw[h1];omega)
  go_simp
  refine(HA.o K (at2+1) false r.tail _ HN.o.ms.pat (by have h1:=HN.o.lt;have h2:=HN.o.tl;have h3:rest.length<=m:=HMm.o;show r.tail.length<=m;omega)).mono ?_
  rintro e w7 ⟨h2,a2,n2,c2,bad7,at7,r7,rfl,hp7,He,hg7,hI⟩
  have HX7:=Xj (HN.o.xc.gr hg7 (by have:=HN.o.b1;have:=HN.o.b2;have:=HN.o.ms.gl;omega))
  have H7:=Xj (And.intro hp7 (And.intro He hg7))
  refine hK.out _ _ trivial (λ _=>?_)
  clear hK K0
  refine Xz ?_
  clear hp7 He hg7
  refine rdH 2 λ K0 hK=>?_
  obtain⟨x0,x1,x2,x3,x4,x5⟩:=HX7.o.cells
  have hlX:=HX7.o.lt
  go_simp
  refine hK.out _ _ trivial (λ _=>?_)
  clear hK K0
  refine Xz ?_
  clear x0 x1 x2 x3 x4 x5 hlX
  refine rdH 5 λ K0 hK=>?_
  go_simp
  refine(Jh 6 o tn h h2 a a2 n c n2 c2 w7).mono ?_
  rintro e w8 ⟨g,rfl,hb8,hjx⟩
  have HX8:=Xj (HX7.o.be hb8)
  have HF:Xq (∀ W,W=(set6 w8 gx (.int .i64 6) (.int .i64 o) (.int .i64 0) (.int .i64 tn) (.string { data := #[] }) (.slice (some ⟨g,0,none⟩) 2 2))->LQ K w gR gx .te (CL .te .teL rest) at_ false rest ⟨6,o,0,tn,[]⟩ (some ⟨g,0,none⟩) 2 2 bad7 at7 r7 W/\at2<at7):=Xj (λ W hW=>by
   subst hW
   exact HN.o.fin H7.o.1 H7.o.2.1 H7.o.2.2 hI.o hb8 hjx.o (λ ar2 k1 kc z k2=>kc _ (Ps.teL_ok HT.o.1 k1 (by rw[HLN.o,HT.o.2];exact k2))) (λ k1 kc=>kc _ (Ps.teL_bad HT.o.1 k1)))
  refine hK.out _ _ trivial (λ _=>?_)
  clear hK K0
  refine Xz ?_
  clear hb8
  refine rdH 6 λ K0 hK=>?_
  obtain⟨x0,x1,x2,x3,x4,x5⟩:=HX8.o.cells
  obtain⟨g0,g1,g2,g3,g4,g5⟩:=HX8.o.froz
  have hlX:=HX8.o.lt
  go_simp
  refine hK.out _ _ trivial (λ _=>?_)
  clear hK K0
  refine Xz ?_
  refine wpAnyH_done (by kernel_rfl) ?_ _
  refine Xz ?_
  go_wp2_with fail
  go_roundw
  case rel=>exact⟨_,some ⟨g,0,none⟩,2,2,bad7,at7,r7,Xj (HF.o _ rfl).1⟩
  have h1:=(HF.o _ rfl).1.ms.pat.natAt
  have h2:=(HF.o _ rfl).2
  have h3:=HL.o.ms.pat.natAt
  have h4:=HL.o.ms.pat.lt.1
  unfold set6 at h1
  rw[h3]
  first|(rw[h1];omega)|(simp at h1;rw[h1];omega)
 have HL4:=Xj (HLB.o.no hp4 hg4 (by have:=HGR.o;omega) HGX.o)
 have HF:=Xj (HL4.o.fin (by have:=HGR.o;omega) (λ hb F hc=>hc _ (Ps.teL_end (by subst hb;exact Df ((Mq HLB.o.ms.pat.en).symm.trans ho)))))
 clear ho hp4 hg4 HLB HBB HRO
 obtain⟨x0,x1,x2,x3,x4,x5⟩:=HL4.o.xc.cells
 obtain⟨y0,y1,y2,y3,y4,y5⟩:=HL4.o.rc.cells
 obtain⟨g0,g1,g2,g3,g4,g5⟩:=HL4.o.rc.froz
 have hlR:=HL4.o.rc.lt
 have hlX:=HL4.o.xc.lt
 go_wp2_with fail
 obtain⟨wz,hwz⟩:∃ W,set6 w4 gR (.int .i64 h.k) (.int .i64 h.op) (.int .i64 h.v) (.int .i64 h.ln) (.string (st h.nm)) (.slice a n c)=W:=⟨_,rfl⟩
 have hY:=hwz
 unfold set6 at hY
 (try rw[hY])
 rw[hwz] at HF
 obtain⟨d0,d1,d2,d3,d4,d5⟩:=HF.o.2.cells
 refine bodyPost_ret (v:=exv h (.slice a n c)) (by simp[results,Tryz.results183,go_sem,d0,d1,d2,d3,d4,d5]) rfl ?_
 exact HF.o.1
theorem Ns (m:Nat) (hA:CQ 164 .su m):CQ 137 .cm m:=by
 intro K at_ bad rest w hP hm
 have HM1:=Xj ((RS.init hP).al zex)
 have HR1:=Xj (Lc.zero w)
 have HA:=Xj hA
 have HMm:=Xj hm
 clear hA hP hm
 go_enter Tryz.func137,Tryz.ntmps137
 go_upto_region 1 with fail
 obtain⟨w1,hw1⟩:∃ W,w.alloc zex=W:=⟨_,rfl⟩
 obtain⟨gR,hgR⟩:∃ x,w.heap.size=x:=⟨_,rfl⟩
 (try rw[show w.alloc (.cells #[.int .i64 0,.int .i64 0,.int .i64 0,.int .i64 0,.string { data := #[] },.slice none 0 0] 37)=w1 from hw1])
 rw[hw1] at HM1 HR1
 rw[hgR] at HR1
 (try rw[hgR])
 have HGR:=Xj hgR
 have HS1:Xq (w1.heap.size=gR+1):=Xj (by rw[<- hw1,<- hgR];simp)
 clear hw1 hgR
 go_wp2_with fail
 refine(HA.o K at_ bad rest _ HM1.o.pat HMm.o).mono ?_
 rintro e w2 ⟨h,a,n,c,bad2,at2,r,rfl,hp2,hjy,hg2,Ha⟩
 have HM2:=Xj (HM1.o.call hp2 hg2)
 have HR2:=Xj (HR1.o.gr hg2 (by have:=HM1.o.gl;have:=HGR.o;omega))
 have hs2:=hg2.size
 have HL3:Xq (LQ K w gR w2.heap.size .cm (λ x r=>Ps .su rest (.ok x r)) at_ bad rest h a n c bad2 at2 r (w2.alloc (.cells (ecs h (.slice a n c)) 37))):=Xj ⟨HM2.o.al _,HR2.o.al _,Lc.new w2 h (.slice a n c),hjy,by
  rcases Ha.o with⟨h1,h1',ar,h2,h3,h4⟩|⟨h1,h1',h2⟩|hr
  ·exact .inl ⟨h1,h1',ar,h2,Xg (Yr _ h3) (λ b hb _=>⟨by have:=hb.1;have:=HS1.o;have:=HGR.o;omega,by have:=hb.1;have:=HS1.o;omega,hb.2⟩),h4⟩
  ·exact .inr (.inl ⟨h1,h1',Ps.cm_bad h2⟩)
  exact .inr (.inr hr)⟩
 clear Ha hp2 hg2
 go_upto_region 2 with fail
 obtain⟨w3,hw3⟩:∃ W,w2.alloc (.cells (ecs h (.slice a n c)) 37)=W:=⟨_,rfl⟩
 obtain⟨gx,hgx⟩:∃ x,w2.heap.size=x:=⟨_,rfl⟩
 (try rw[show w2.alloc (.cells #[.int .i64 h.k,.int .i64 h.op,.int .i64 h.v,.int .i64 h.ln,.string (st h.nm),.slice a n c] 37)=w3 from hw3])
 rw[hw3,hgx] at HL3
 (try rw[hgx])
 have HGX:Xq (gR<gx):=Xj (by have:=HS1.o;omega)
 clear hw3 hgx hs2 hjy HM2 HR2 HM1 HR1
 have HL:=HL3
 have hgg:=HL.o.ms.gl
 have hsg:=Sgn.new w3 [([60],8),([60,61],9),([61,61],10),([33,61],11)] 9 3
 have HBB:=Xj ((Xw w3 (.cells #[.string { data := #[60] },.string { data := #[60,61] },.string { data := #[61,61] },.string { data := #[33,61] }] 9)).alloc (by simp) (.cells #[.int .i64 8,.int .i64 9,.int .i64 10,.int .i64 11] 3))
 have HLB:=Xj (HL.o.be HBB.o)
 have HRO:=Xj (Jl K at2 bad2 r [([60],8),([60,61],9),([61,61],10),([33,61],11)] w3.heap.size (w3.heap.size+1) _ HLB.o.ms.pat hsg (by decide) ⟨by have:=HL.o.ms.pat.glt;omega,by have:=HL.o.ms.pat.glt;omega⟩)
 clear hsg
 go_wp2_with fail
 refine HRO.o.mono ?_
 rintro e w4 ⟨at4,r4,hp4,hg4,hc⟩
 rcases hc with⟨o,ho,rfl,rfl,hk,rfl,rfl⟩|⟨ho,rfl,rfl,rfl⟩
 ·obtain⟨rfl,ar,hn⟩:=HLB.o.yes hp4 hg4 (by have:=HGR.o;omega) HGX.o hk
  have HN:=Xj (hn.be (Below.refl _ _).drew)
  obtain⟨ho1,ho2⟩:=Gu ((Sp HLB.o.ms.pat.en).symm.trans ho)
  have HT:=Xj (And.intro ho1 ho2)
  have ho3:0<o:=by have:=xjl (lo:=8) (hi:=11) r;omega
  have dop:decide (0<o)=true:=decide_eq_true ho3
  clear ho hk hp4 hg4 hn ho1 ho2 HLB HBB HRO
  obtain⟨tn,htn⟩:∃ x,Yb r=x:=⟨_,rfl⟩
  have HLN:=Xj htn
  (try rw[htn])
  clear htn
  go_upto_region 4 with fail
  obtain⟨wd,hwd⟩:∃ W,w4.drew=W:=⟨_,rfl⟩
  rw[hwd] at HN
  clear dop ho3
  refine wp_region_held_drew (S:=λ _=>True) (by kernel_rfl) trivial (λ hJ=>?_)
  (try rw[hwd])
  clear hwd
  refine tkH 0 17 ?_
  refine tkH 1 18 ?_
  refine tkH 3 20 ?_
  refine wpAnyH_ready (rs:=[2,4]) (by kernel_rfl) (by simp) ?_
  refine AllReadyH.cons rfl (λ K0 hK=>?_) (AllReadyH.cons rfl (λ K0 hK=>?_) AllReadyH.nil)
  ·obtain⟨x0,x1,x2,x3,x4,x5⟩:=HN.o.xc.cells
   have hlX:=HN.o.xc.lt
   go_simp
   refine hK.out _ _ trivial (λ _=>?_)
   clear hK K0
   refine Xz ?_
   clear x0 x1 x2 x3 x4 x5 hlX
   refine rdH 4 λ K0 hK=>?_
   go_simp
   refine(HA.o K (at2+1) false r.tail _ HN.o.ms.pat (by have h1:=HN.o.lt;have h2:=HN.o.tl;have h3:rest.length<=m:=HMm.o;show r.tail.length<=m;omega)).mono ?_
   rintro e w7 ⟨h2,a2,n2,c2,bad7,at7,r7,rfl,hp7,He,hg7,hI⟩
   have HX7:=Xj (HN.o.xc.gr hg7 (by have:=HN.o.b1;have:=HN.o.b2;have:=HN.o.ms.gl;omega))
   have HR7:=Xj (HN.o.rc.gr hg7 (by have:=HN.o.b1;have:=HN.o.b2;have:=HN.o.ms.gl;omega))
   have H7:=Xj (And.intro hp7 (And.intro He hg7))
   refine hK.out _ _ trivial (λ _=>?_)
   clear hK K0
   refine Xz ?_
   clear hp7 He hg7
   refine rdH 5 λ K0 hK=>?_
   go_simp
   refine(Jh 6 o tn h h2 a a2 n c n2 c2 w7).mono ?_
   rintro e w8 ⟨g,rfl,hb8,hjx⟩
   have HR8:=Xj (HR7.o.be hb8)
   have HF:Xq (∀ W,W=(set6 w8 gR (.int .i64 6) (.int .i64 o) (.int .i64 0) (.int .i64 tn) (.string { data := #[] }) (.slice (some ⟨g,0,none⟩) 2 2))->EQ K .cm at_ false rest w (.returned (exv ⟨6,o,0,tn,[]⟩ (.slice (some ⟨g,0,none⟩) 2 2))) W/\Lc W gR ⟨6,o,0,tn,[]⟩ (.slice (some ⟨g,0,none⟩) 2 2)):=Xj (λ W hW=>by
    subst hW
    exact HN.o.ret H7.o.1 H7.o.2.1 H7.o.2.2 hI.o hb8 hjx.o (λ ar2 k1 kc=>by have:=Ps.cm_two kc HT.o.1 k1;rw[HLN.o,HT.o.2] at this;exact this) (λ k1 kc=>Ps.cm_two_bad kc HT.o.1 k1))
   refine hK.out _ _ trivial (λ _=>?_)
   clear hK K0
   refine Xz ?_
   clear hb8
   refine rdH 6 λ K0 hK=>?_
   obtain⟨x0,x1,x2,x3,x4,x5⟩:=HR8.o.cells
   obtain⟨g0,g1,g2,g3,g4,g5⟩:=HR8.o.froz
   have hlX:=HR8.o.lt
   go_simp
   refine hK.out _ _ trivial (λ _=>?_)
   clear hK K0
   refine Xz ?_
   refine wpAnyH_done (by kernel_rfl) ?_ _
   refine Xz ?_
   go_wp2_with fail
   obtain⟨wz,hwz⟩:∃ W,(set6 w8 gR (.int .i64 6) (.int .i64 o) (.int .i64 0) (.int .i64 tn) (.string { data := #[] }) (.slice (some ⟨g,0,none⟩) 2 2))=W:=⟨_,rfl⟩
   have hY:=hwz
   unfold set6 at hY
   (try rw[hY])
   (try rw[show (set6 w8 gR (.int .i64 6) (.int .i64 o) (.int .i64 0) (.int .i64 tn) (.string st []) (.slice (some ⟨g,0,none⟩) 2 2))=wz from hwz])
   obtain⟨hep,hd⟩:=HF.o wz hwz.symm
   obtain⟨d0,d1,d2,d3,d4,d5⟩:=hd.cells
   refine bodyPost_ret (v:=exv ⟨6,o,0,tn,[]⟩ (.slice (some ⟨g,0,none⟩) 2 2)) (by simp[results,Tryz.results137,go_sem,d0,d1,d2,d3,d4,d5]) rfl ?_
   exact hep
  go_simp
  refine(HA.o K (at2+1) false r.tail _ HN.o.ms.pat (by have h1:=HN.o.lt;have h2:=HN.o.tl;have h3:rest.length<=m:=HMm.o;show r.tail.length<=m;omega)).mono ?_
  rintro e w7 ⟨h2,a2,n2,c2,bad7,at7,r7,rfl,hp7,He,hg7,hI⟩
  have HX7:=Xj (HN.o.xc.gr hg7 (by have:=HN.o.b1;have:=HN.o.b2;have:=HN.o.ms.gl;omega))
  have HR7:=Xj (HN.o.rc.gr hg7 (by have:=HN.o.b1;have:=HN.o.b2;have:=HN.o.ms.gl;omega))
  have H7:=Xj (And.intro hp7 (And.intro He hg7))
  refine hK.out _ _ trivial (λ _=>?_)
  clear hK K0
  refine Xz ?_
  clear hp7 He hg7
  refine rdH 2 λ K0 hK=>?_
  obtain⟨x0,x1,x2,x3,x4,x5⟩:=HX7.o.cells
  have hlX:=HX7.o.lt
  go_simp
  refine hK.out _ _ trivial (λ _=>?_)
  clear hK K0
  refine Xz ?_
  clear x0 x1 x2 x3 x4 x5 hlX
  refine rdH 5 λ K0 hK=>?_
  go_simp
  refine(Jh 6 o tn h h2 a a2 n c n2 c2 w7).mono ?_
  rintro e w8 ⟨g,rfl,hb8,hjx⟩
  have HR8:=Xj (HR7.o.be hb8)
  have HF:Xq (∀ W,W=(set6 w8 gR (.int .i64 6) (.int .i64 o) (.int .i64 0) (.int .i64 tn) (.string { data := #[] }) (.slice (some ⟨g,0,none⟩) 2 2))->EQ K .cm at_ false rest w (.returned (exv ⟨6,o,0,tn,[]⟩ (.slice (some ⟨g,0,none⟩) 2 2))) W/\Lc W gR ⟨6,o,0,tn,[]⟩ (.slice (some ⟨g,0,none⟩) 2 2)):=Xj (λ W hW=>by
   subst hW
   exact HN.o.ret H7.o.1 H7.o.2.1 H7.o.2.2 hI.o hb8 hjx.o (λ ar2 k1 kc=>by have:=Ps.cm_two kc HT.o.1 k1;rw[HLN.o,HT.o.2] at this;exact this) (λ k1 kc=>Ps.cm_two_bad kc HT.o.1 k1))
  refine hK.out _ _ trivial (λ _=>?_)
  clear hK K0
  refine Xz ?_
  clear hb8
  refine rdH 6 λ K0 hK=>?_
  obtain⟨x0,x1,x2,x3,x4,x5⟩:=HR8.o.cells
  obtain⟨g0,g1,g2,g3,g4,g5⟩:=HR8.o.froz
  have hlX:=HR8.o.lt
  go_simp
  refine hK.out _ _ trivial (λ _=>?_)
  clear hK K0
  refine Xz ?_
  refine wpAnyH_done (by kernel_rfl) ?_ _
  refine Xz ?_
  go_wp2_with fail
  obtain⟨wz,hwz⟩:∃ W,(set6 w8 gR (.int .i64 6) (.int .i64 o) (.int .i64 0) (.int .i64 tn) (.string { data := #[] }) (.slice (some ⟨g,0,none⟩) 2 2))=W:=⟨_,rfl⟩
  have hY:=hwz
  unfold set6 at hY
  (try rw[hY])
  (try rw[show (set6 w8 gR (.int .i64 6) (.int .i64 o) (.int .i64 0) (.int .i64 tn) (.string st []) (.slice (some ⟨g,0,none⟩) 2 2))=wz from hwz])
  obtain⟨hep,hd⟩:=HF.o wz hwz.symm
  obtain⟨d0,d1,d2,d3,d4,d5⟩:=hd.cells
  refine bodyPost_ret (v:=exv ⟨6,o,0,tn,[]⟩ (.slice (some ⟨g,0,none⟩) 2 2)) (by simp[results,Tryz.results137,go_sem,d0,d1,d2,d3,d4,d5]) rfl ?_
  exact hep
 have HL4:=Xj (HLB.o.no hp4 hg4 (by have:=HGR.o;omega) HGX.o)
 have HF:=Xj (HL4.o.fin (by have:=HGR.o;omega) (λ hb F hc=>Ps.cm_end hc (by subst hb;exact Df ((Sp HLB.o.ms.pat.en).symm.trans ho))))
 clear ho hp4 hg4 HLB HBB HRO
 obtain⟨x0,x1,x2,x3,x4,x5⟩:=HL4.o.xc.cells
 obtain⟨y0,y1,y2,y3,y4,y5⟩:=HL4.o.rc.cells
 obtain⟨g0,g1,g2,g3,g4,g5⟩:=HL4.o.rc.froz
 have hlR:=HL4.o.rc.lt
 have hlX:=HL4.o.xc.lt
 go_wp2_with fail
 obtain⟨wz,hwz⟩:∃ W,set6 w4 gR (.int .i64 h.k) (.int .i64 h.op) (.int .i64 h.v) (.int .i64 h.ln) (.string (st h.nm)) (.slice a n c)=W:=⟨_,rfl⟩
 have hY:=hwz
 unfold set6 at hY
 (try rw[hY])
 rw[hwz] at HF
 obtain⟨d0,d1,d2,d3,d4,d5⟩:=HF.o.2.cells
 refine bodyPost_ret (v:=exv h (.slice a n c)) (by simp[results,Tryz.results137,go_sem,d0,d1,d2,d3,d4,d5]) rfl ?_
 exact HF.o.1
section
theorem Ol {rest:List Tk} {o:Int} (h:opF false rest [([45],1),([33],2)]=some o):0<o/\(∀ x r,Ps .un rest.tail (.ok x r)->Ps .un rest (.ok (nd 5 o 0 (Yb rest) [] x) r))/\(∀ r,Ps .un rest.tail (.bad r)->Ps .un rest (.bad r)):=by
 simp only[opF,Bool.not_false,Bool.true_and] at h
 split at h
 ·rename_i h1
  injection h with h
  subst h
  exact⟨by omega,λ x r k=>Ps.un_neg h1 k,λ r k=>Ps.un_neg_bad h1 k⟩
 rename_i h1
 have h1:isT [45] rest=false:=by simpa using h1
 split at h
 ·rename_i h2
  injection h with h
  subst h
  exact⟨by omega,λ x r k=>Ps.un_not h1 h2 k,λ r k=>Ps.un_not_bad h1 h2 k⟩
 cases h
theorem On {rest:List Tk} (h:opF false rest [([45],1),([33],2)]=none):∀ y,Ps .ca rest y->Ps .un rest y:=by
 simp only[opF,Bool.not_false,Bool.true_and] at h
 split at h
 ·cases h
 rename_i h1
 split at h
 ·cases h
 rename_i h2
 exact λ y k=>Ps.un_ca (by simpa using h1) (by simpa using h2) k
section
variable {K:PC} {w wx w7:World} {gR:Nat} {lv lvc:Lv} {at_:Nat} {bad:Bool} {rest:List Tk} {h:Hd} {a:Option Addr} {n c:Nat} {bad2 bad7:Bool} {at2 at7:Nat} {r r7:List Tk}
theorem RS.up (M:RS K w wx at2 bad2 r) (R:Lc wx gR zhd (.slice none 0 0)) (b1:w.heap.size<=gR) (hp7:RAt w7 K at7 bad7 r7) (He:r7.length<=r.length) (hg7:wx.grownBy w7 (some K.g))
  (Ha:(bad2=false/\bad7=false/\∃ ar,Ps lvc r (.ok (Xb h ar) r7)/\Xk w7 (λ b=>wx.heap.size<=b) ar (.slice a n c)/\r7.length<r.length)\/(bad2=false/\bad7=true/\Ps lvc r (.bad r7))\/(bad2=true/\bad7=true/\at7=at2/\r7=r))
  (hle:r.length<=rest.length) (hok:bad2=false->bad=false/\∀ y,Ps lvc r y->Ps lv rest y) (hqs:bad2=true->bad=true/\at2=at_/\r=rest) :
  EQ K lv at_ bad rest w (.returned (exv h (.slice a n c))) (set6 w7 gR (.int .i64 h.k) (.int .i64 h.op) (.int .i64 h.v) (.int .i64 h.ln) (.string (st h.nm)) (.slice a n c)) /\
  Lc (set6 w7 gR (.int .i64 h.k) (.int .i64 h.op) (.int .i64 h.v) (.int .i64 h.ln) (.string (st h.nm)) (.slice a n c)) gR h (.slice a n c):=by
 have hgl:=M.gl
 have hlr:=R.lt
 have hms:=(M.call hp7 hg7).s6 b1 (.int .i64 h.k) (.int .i64 h.op) (.int .i64 h.v) (.int .i64 h.ln) (.string (st h.nm)) (.slice a n c)
 refine⟨⟨h,a,n,c,bad7,at7,r7,rfl,hms.pat,by omega,hms.gr,Xj ?_⟩,(R.gr hg7 (by omega)).s6 h (.slice a n c)⟩
 rcases Ha with⟨h1,h2,ar,h3,h4,h5⟩|⟨h1,h2,h3⟩|⟨h1,h2,h3,h4⟩
 ·exact .inl ⟨(hok h1).1,h2,ar,(hok h1).2 _ h3,Xg (Yz h4 (λ b hb=>by omega)) (λ b hb _=>by have:=M.gr.size;omega),by omega⟩
 ·exact .inr (.inl ⟨(hok h1).1,h2,(hok h1).2 _ h3⟩)
 obtain⟨e1,e2,e3⟩:=hqs h1
 exact .inr (.inr ⟨e1,h2,by omega,by rw[h4,e3]⟩)
theorem RS.one {k op ln:Int} {nm:Bt} (M:RS K w wx at2 false r) (R:Lc wx gR zhd (.slice none 0 0)) (b1:w.heap.size<=gR) (hp7:RAt w7 K at7 bad7 r7) (He:r7.length<=r.length) (hg7:wx.grownBy w7 (some K.g))
  (Ha:(false=false/\bad7=false/\∃ ar,Ps lvc r (.ok (Xb h ar) r7)/\Xk w7 (λ b=>wx.heap.size<=b) ar (.slice a n c)/\r7.length<r.length)\/(false=false/\bad7=true/\Ps lvc r (.bad r7))\/(false=true/\bad7=true/\at7=at2/\r7=r))
  (hle:r.length<rest.length) (hok:∀ ar,Ps lvc r (.ok (Xb h ar) r7)->Ps lv rest (.ok (nd k op 0 ln nm (Xb h ar)) r7)) (hqs:Ps lvc r (.bad r7)->Ps lv rest (.bad r7)) :
  ∀ W,W=(set6 w7 gR (.int .i64 k) (.int .i64 op) (.int .i64 0) (.int .i64 ln) (.string (st nm)) (.slice (some ⟨w7.heap.size,0,none⟩) 1 1)).alloc (.cells #[.int .i64 h.k,.int .i64 h.op,.int .i64 h.v,.int .i64 h.ln,.string (st h.nm),.slice a n c] 37) ->
   EQ K lv at_ false rest w (.returned (exv ⟨k,op,0,ln,nm⟩ (.slice (some ⟨w7.heap.size,0,none⟩) 1 1))) W/\Lc W gR ⟨k,op,0,ln,nm⟩ (.slice (some ⟨w7.heap.size,0,none⟩) 1 1):=by
 intro W hW
 have hgl:=M.gl
 have hlr:=R.lt
 have R7:=R.gr hg7 (by omega)
 rw[<- Zx _ R7.lt] at hW
 have hA:=R7.al (.cells #[.int .i64 h.k,.int .i64 h.op,.int .i64 h.v,.int .i64 h.ln,.string (st h.nm),.slice a n c] 37)
 subst hW
 have hms:=((M.call hp7 hg7).al (.cells #[.int .i64 h.k,.int .i64 h.op,.int .i64 h.v,.int .i64 h.ln,.string (st h.nm),.slice a n c] 37)).s6 b1 (.int .i64 k) (.int .i64 op) (.int .i64 0) (.int .i64 ln) (.string (st nm)) (.slice (some ⟨w7.heap.size,0,none⟩) 1 1)
 refine⟨⟨⟨k,op,0,ln,nm⟩,some ⟨w7.heap.size,0,none⟩,1,1,bad7,at7,r7,rfl,hms.pat,by omega,hms.gr,Xj ?_⟩,hA.s6 ⟨k,op,0,ln,nm⟩ _⟩
 have hs7:=hg7.size
 have hsw:=M.gr.size
 rcases Ha with⟨h1,h2,ar,h3,h4,h5⟩|⟨h1,h2,h3⟩|⟨h1,_⟩
 ·refine .inl ⟨rfl,h2,Xb h ar,hok ar h3,?_,by omega⟩
  exact Xg (Yz (Vq (Q:=λ b=>w.heap.size<=b/\b≠gR) h4 (λ b hb _=>⟨by omega,by omega⟩) ⟨by omega,by have:=R7.lt;omega⟩) (λ b hb=>hb.2)) (λ b hb _=>hb.1)
 ·exact .inr (.inl ⟨rfl,h2,hqs h3⟩)
 cases h1
end
theorem Nd (m:Nat) (hC:CQ 203 .ca m) (hU:∀ j,j<m->CQ 198 .un j):CQ 198 .un m:=by
 intro K at_ bad rest w hP hm
 have HM1:=Xj ((RS.init hP).al zex)
 have HR1:=Xj (Lc.zero w)
 have HC:=Xj hC
 have HMm:=Xj hm
 have HRT:Xq (rest.tail.length<rest.length):=Xj (by obtain⟨x,r,e⟩:=hP.en.cons;rw[e];simp)
 have HU:Xq (bad=false->∀ (w2:World),RAt w2 K (at_+1) false rest.tail->Calls Tryz.prog 198 #[.pointer (some ⟨K.g,0,none⟩)] w2 (EQ K .un (at_+1) false rest.tail w2)):=Xj (λ hb w2 hp=>hU rest.tail.length (by subst hb;have h3:rest.length<=m:=hm;have:=HRT.o;omega) K (at_+1) false rest.tail w2 hp (Nat.le_refl _))
 clear hC hU hP hm
 go_enter Tryz.func198,Tryz.ntmps198
 go_upto_region 1 with fail
 obtain⟨w1,hw1⟩:∃ W,w.alloc zex=W:=⟨_,rfl⟩
 obtain⟨gR,hgR⟩:∃ x,w.heap.size=x:=⟨_,rfl⟩
 (try rw[show w.alloc (.cells #[.int .i64 0,.int .i64 0,.int .i64 0,.int .i64 0,.string { data := #[] },.slice none 0 0] 37)=w1 from hw1])
 rw[hw1] at HM1 HR1
 rw[hgR] at HR1
 (try rw[hgR])
 have HGR:=Xj hgR
 clear hw1 hgR
 have hsg:=Sgn.new w1 [([45],1),([33],2)] 9 3
 have HBB:=Xj ((Xw w1 (.cells #[.string { data := #[45] },.string { data := #[33] }] 9)).alloc (by simp) (.cells #[.int .i64 1,.int .i64 2] 3))
 have HRO:=Xj (Jl K at_ bad rest [([45],1),([33],2)] w1.heap.size (w1.heap.size+1) _ (HM1.o.be HBB.o).pat hsg (by decide) ⟨by have:=HM1.o.pat.glt;omega,by have:=HM1.o.pat.glt;omega⟩)
 clear hsg
 go_wp2_with fail
 refine HRO.o.mono ?_
 rintro e w4 ⟨at4,r4,hp4,hg4,hc⟩
 have HM4:=Xj ((HM1.o.be HBB.o).call hp4 hg4)
 have HR4:=Xj ((HR1.o.be HBB.o).gr hg4 (by have:=HM1.o.gl;have:=HGR.o;omega))
 clear hp4 hg4 HRO HBB HM1 HR1
 rcases hc with⟨o,ho,rfl,rfl,hk,rfl,rfl⟩|⟨ho,rfl,rfl,rfl⟩
 ·have HT:=Xj (Ol ho)
  have ho3:0<o:=HT.o.1
  have dop:decide (0<o)=true:=decide_eq_true ho3
  obtain⟨tn,htn⟩:∃ x,Yb rest=x:=⟨_,rfl⟩
  have HLN:=Xj htn
  (try rw[htn])
  clear ho hk htn
  go_wp2_with fail
  refine(HU.o (by first|rfl|trivial) w4 HM4.o.pat).mono ?_
  rintro e w7 ⟨h,a,n,c,bad7,at7,r7,rfl,hp7,He,hg7,hI⟩
  have hjg:=Xj (RS.one (lv:=.un) (at_:=at_) (rest:=rest) (k:=5) (op:=o) (ln:=tn) (nm:=[]) HM4.o HR4.o (by have:=HGR.o;omega) hp7 He hg7 hI.o HRT.o (λ ar k=>by have:=HT.o.2.1 _ _ k;rw[HLN.o] at this;exact this) (λ k=>HT.o.2.2 _ k))
  have HR7:=Xj (HR4.o.gr hg7 (by have:=HM4.o.gl;have:=HGR.o;omega))
  clear hI hp7 hg7 He
  obtain⟨u0,u1,u2,u3,u4,u5⟩:=HR7.o.cells
  obtain⟨k0,k1,k2,k3,k4,k5⟩:=HR7.o.froz
  have hlR7:=HR7.o.lt
  go_wp2_with fail
  obtain⟨wz,hwz⟩:∃ W,(set6 w7 gR (.int .i64 5) (.int .i64 o) (.int .i64 0) (.int .i64 tn) (.string { data := #[] }) (.slice (some ⟨w7.heap.size,0,none⟩) 1 1)).alloc (.cells #[.int .i64 h.k,.int .i64 h.op,.int .i64 h.v,.int .i64 h.ln,.string (st h.nm),.slice a n c] 37)=W:=⟨_,rfl⟩
  have hY:=hwz
  unfold set6 at hY
  (try rw[hY])
  obtain⟨hep,hd⟩:=hjg.o wz hwz.symm
  obtain⟨d0,d1,d2,d3,d4,d5⟩:=hd.cells
  refine bodyPost_ret (v:=exv ⟨5,o,0,tn,[]⟩ (.slice (some ⟨w7.heap.size,0,none⟩) 1 1)) (by simp[results,Tryz.results198,go_sem,d0,d1,d2,d3,d4,d5]) rfl ?_
  exact hep
 have HN:Xq (bad=false->∀ y,Ps .ca r4 y->Ps .un r4 y):=Xj (λ hb=>by subst hb;exact On ho)
 clear ho
 go_wp2_with fail
 refine(HC.o K at4 bad r4 w4 HM4.o.pat HMm.o).mono ?_
 rintro e w7 ⟨h,a,n,c,bad7,at7,r7,rfl,hp7,He,hg7,hI⟩
 have HF:=Xj (RS.up (lv:=.un) (at_:=at4) (bad:=bad) (rest:=r4) HM4.o HR4.o (by have:=HGR.o;omega) hp7 He hg7 hI.o (Nat.le_refl _) (λ hb=>⟨hb,HN.o hb⟩) (λ hb=>⟨hb,rfl,rfl⟩))
 have HR7:=Xj (HR4.o.gr hg7 (by have:=HM4.o.gl;have:=HGR.o;omega))
 clear hI hp7 hg7 He
 obtain⟨u0,u1,u2,u3,u4,u5⟩:=HR7.o.cells
 obtain⟨k0,k1,k2,k3,k4,k5⟩:=HR7.o.froz
 have hlR7:=HR7.o.lt
 go_wp2_with fail
 obtain⟨wz,hwz⟩:∃ W,set6 w7 gR (.int .i64 h.k) (.int .i64 h.op) (.int .i64 h.v) (.int .i64 h.ln) (.string (st h.nm)) (.slice a n c)=W:=⟨_,rfl⟩
 have hY:=hwz
 unfold set6 at hY
 (try rw[hY])
 rw[hwz] at HF
 obtain⟨d0,d1,d2,d3,d4,d5⟩:=HF.o.2.cells
 refine bodyPost_ret (v:=exv h (.slice a n c)) (by simp[results,Tryz.results198,go_sem,d0,d1,d2,d3,d4,d5]) rfl ?_
 exact HF.o.1
end
section
section
variable {K:PC} {w wx wy:World} {gR gt:Nat} {x:Tk} {lv:Lv} {at_ at2 at3:Nat} {bad bad2 bad3:Bool} {rest r r3:List Tk}
theorem Ej {h0:Hd} {s0:Value} (M:RS K w wx at2 bad2 r) (R:Lc wx gR h0 s0) (b1:w.heap.size<=gR) (hl:r.length<=rest.length) (h:Hd) (a:Option Addr) (n c:Nat)
  (Ha:(bad=false/\bad2=false/\∃ ar,Ps lv rest (.ok (Xb h ar) r)/\Xk wx (λ b=>w.heap.size<=b/\b≠gR) ar (.slice a n c)/\r.length<rest.length)\/(bad=false/\bad2=true/\Ps lv rest (.bad r))\/(bad=true/\bad2=true/\at2=at_/\r=rest)) (W:World)
  (hW:W=set6 wx gR (.int .i64 h.k) (.int .i64 h.op) (.int .i64 h.v) (.int .i64 h.ln) (.string (st h.nm)) (.slice a n c)) :
  Lc W gR h (.slice a n c)/\EQ K lv at_ bad rest w (.returned (exv h (.slice a n c))) W:=by
 subst hW
 have h2:=M.s6 b1 (.int .i64 h.k) (.int .i64 h.op) (.int .i64 h.v) (.int .i64 h.ln) (.string (st h.nm)) (.slice a n c)
 refine⟨R.s6 h _,h,a,n,c,bad2,at2,r,rfl,h2.pat,hl,h2.gr,Xj ?_⟩
 rcases Ha with⟨e1,e1',ar,e2,e3,e4⟩|e|e
 ·exact .inl ⟨e1,e1',ar,e2,Xg (Yz e3 (λ b hb=>hb.2)) (λ b hb _=>hb.1),e4⟩
 ·exact .inr (.inl e)
 exact .inr (.inr e)
theorem xxq {h:Hd} {a:Option Addr} {n c:Nat} {k op ln:Int} {nm:Bt} (M:RS K w wx at2 bad2 r) (R:Lc wx gR zhd (.slice none 0 0)) (b1:w.heap.size<=gR) (hl:r.length<=rest.length)
  (Ha:(bad=false/\bad2=false/\∃ ar,Ps lv rest (.ok (nd k op 0 ln nm (Xb h ar)) r)/\Xk wx (λ b=>w.heap.size<=b/\b≠gR) ar (.slice a n c)/\r.length<rest.length)\/(bad=false/\bad2=true/\Ps lv rest (.bad r))) (W:World)
  (hW:W=(set6 wx gR (.int .i64 k) (.int .i64 op) (.int .i64 0) (.int .i64 ln) (.string (st nm)) (.slice (some ⟨wx.heap.size,0,none⟩) 1 1)).alloc (.cells #[.int .i64 h.k,.int .i64 h.op,.int .i64 h.v,.int .i64 h.ln,.string (st h.nm),.slice a n c] 37)) :
  Lc W gR ⟨k,op,0,ln,nm⟩ (.slice (some ⟨wx.heap.size,0,none⟩) 1 1)/\EQ K lv at_ bad rest w (.returned (exv ⟨k,op,0,ln,nm⟩ (.slice (some ⟨wx.heap.size,0,none⟩) 1 1))) W:=by
 rw[<- Zx _ R.lt] at hW
 have hA:=R.al (.cells #[.int .i64 h.k,.int .i64 h.op,.int .i64 h.v,.int .i64 h.ln,.string (st h.nm),.slice a n c] 37)
 subst hW
 have hms:=(M.al (.cells #[.int .i64 h.k,.int .i64 h.op,.int .i64 h.v,.int .i64 h.ln,.string (st h.nm),.slice a n c] 37)).s6 b1 (.int .i64 k) (.int .i64 op) (.int .i64 0) (.int .i64 ln) (.string (st nm)) (.slice (some ⟨wx.heap.size,0,none⟩) 1 1)
 refine⟨hA.s6 ⟨k,op,0,ln,nm⟩ _,⟨k,op,0,ln,nm⟩,some ⟨wx.heap.size,0,none⟩,1,1,bad2,at2,r,rfl,hms.pat,hl,hms.gr,Xj ?_⟩
 have hsw:=M.gr.size
 rcases Ha with⟨e1,e1',ar,e2,e3,e4⟩|e
 ·exact .inl ⟨e1,e1',Xb h ar,e2,Xg (Yz (Vq (Q:=λ b=>w.heap.size<=b/\b≠gR) e3 (λ b hb _=>hb) ⟨hsw,by have:=R.lt;omega⟩) (λ b hb=>hb.2)) (λ b hb _=>hb.1),e4⟩
 exact .inr (.inl e)
structure PD (K:PC) (w:World) (gR gt:Nat) (x:Tk) (at2:Nat) (bad2:Bool) (r:List Tk) (wx:World):Prop where
 ms:RS K w wx at2 bad2 r
 rc:Lc wx gR zhd (.slice none 0 0)
 tc:Lt wx gt x
 b1:w.heap.size<=gR
 b2:gR<gt
theorem PD.be (d:PD K w gR gt x at2 bad2 r wx) (hb:Below wx.heap.size wx wy):PD K w gR gt x at2 bad2 r wy:=⟨d.ms.be hb,d.rc.be hb,d.tc.be hb,d.b1,d.b2⟩
theorem PD.call (d:PD K w gR gt x at2 bad2 r wx) (hp:RAt wy K at3 bad3 r3) (hg:wx.grownBy wy (some K.g)):PD K w gR gt x at3 bad3 r3 wy :=
 have h:=d.ms.gl
 have h1:=d.b1
 have h2:=d.b2
 ⟨d.ms.call hp hg,d.rc.gr hg (by omega),d.tc.gr hg (by omega),d.b1,d.b2⟩
theorem PD.step (d:PD K w gR gt x at2 bad2 r wx) (hk:kOf r≠0):PD K w gR gt x (at2+1) bad2 r.tail (wx.setCell ⟨K.g,1,none⟩ (.int .i64 ((at2:Int)+1))) :=
 d.call (d.ms.step hk).pat (Xu wx K.g 1 _)
theorem xvn (b:Bool) (ts:List Tk):mu b ts<=ts.length:=by
 cases b
 ·exact Nat.le_refl _
 exact Nat.zero_le _
end
theorem Nn (m:Nat) (hE:∀ j,j<m->CQ 49 .ex j):CQ 207 .pr m:=by
 intro K at_ bad rest w hP hm
 have HM1:=Xj ((RS.init hP).al zex)
 have HR1:=Xj (Lc.zero w)
 have HMm:=Xj hm
 have HE:Xq (∀ (w2:World) (at2:Nat) (bad2:Bool) (r:List Tk),RAt w2 K at2 bad2 r->(bad=false/\r.length<rest.length)\/(bad=false/\bad2=true)->Calls Tryz.prog 49 #[.pointer (some ⟨K.g,0,none⟩)] w2 (EQ K .ex at2 bad2 r w2)):=Xj (λ w2 at2 bad2 r hp hl=>by
  rcases hl with⟨hb,hl⟩|⟨hb,hl⟩
  ·subst hb
   have h3:rest.length<=m:=hm
   exact hE r.length (by omega) K at2 bad2 r w2 hp (xvn _ _)
  subst hb hl
  have h3:rest.length<=m:=hm
  have h4:0<rest.length:=by obtain⟨x,r5,e⟩:=hP.en.cons;rw[e];simp
  exact hE 0 (by omega) K at2 true r w2 hp (Nat.le_refl _))
 obtain⟨⟨tk,tn,tv,tt⟩,r0,hr0⟩:=hP.en.cons
 have HX0:=Xj hr0
 have HTV:=Xj hP.en
 have HRT:Xq (rest.tail.length<rest.length):=Xj (by rw[hr0];simp)
 have HKT:Xq (kOf rest=tk/\Yb rest=tn/\vOf rest=tv/\tOf rest=tt):=Xj (by rw[hr0];exact⟨rfl,rfl,rfl,rfl⟩)
 clear hE hP hm hr0
 go_enter Tryz.func207,Tryz.ntmps207
 go_upto_region 1 with fail
 obtain⟨w1,hw1⟩:∃ W,w.alloc zex=W:=⟨_,rfl⟩
 obtain⟨gR,hgR⟩:∃ x,w.heap.size=x:=⟨_,rfl⟩
 (try rw[show w.alloc (.cells #[.int .i64 0,.int .i64 0,.int .i64 0,.int .i64 0,.string { data := #[] },.slice none 0 0] 37)=w1 from hw1])
 rw[hw1] at HM1 HR1
 rw[hgR] at HR1
 (try rw[hgR])
 have HGR:=Xj hgR
 clear hw1 hgR
 go_wp2_with fail
 refine(Vm K at_ bad tk tn tv tt r0 w1 (HX0.o▸HM1.o.pat)).mono ?_
 rintro e w2 ⟨rfl,hb2⟩
 have HD3:Xq (PD K w gR w2.heap.size ⟨tk,tn,tv,tt⟩ at_ bad rest (w2.alloc (.cells #[.int .i64 tk,.int .i64 tn,.int .i64 tv,.string (st tt)] 103))):=Xj ⟨(HM1.o.be hb2).al _,(HR1.o.be hb2).al _,Lt.new w2 ⟨tk,tn,tv,tt⟩,by have:=HGR.o;omega,(HR1.o.be hb2).lt⟩
 clear hb2 HM1 HR1
 go_upto_block 0 with fail
 obtain⟨w3,hw3⟩:∃ W,w2.alloc (.cells #[.int .i64 tk,.int .i64 tn,.int .i64 tv,.string (st tt)] 103)=W:=⟨_,rfl⟩
 obtain⟨gt,hgt⟩:∃ x,w2.heap.size=x:=⟨_,rfl⟩
 rw[hw3,hgt] at HD3
 (try rw[hw3])
 (try rw[hgt])
 clear hw3 hgt
 have hgg:=HD3.o.ms.gl
 obtain⟨-,-,p2,-,-,hlp0⟩:=HD3.o.ms.pat.cells
 cases bad
 rotate_left
 ·obtain⟨t0,t1,t2,t3⟩:=HD3.o.tc.cells
  (try dsimp only at t0 t1 t2 t3)
  have hlT:=HD3.o.tc.lt
  obtain⟨y0,y1,y2,y3,y4,y5⟩:=HD3.o.rc.cells
  obtain⟨g0,g1,g2,g3,g4,g5⟩:=HD3.o.rc.froz
  have hlR:=HD3.o.rc.lt
  go_wp2_with fail
  have hZ:=Ej (lv:=.pr) (at_:=at_) (bad:=true) (rest:=rest) HD3.o.ms HD3.o.rc HD3.o.b1 (Nat.le_refl _) ⟨0,0,0,0,[]⟩ none 0 0 (.inr (.inr ⟨rfl,rfl,rfl,rfl⟩))
  obtain⟨wz,hwz⟩:∃ W,set6 w3 gR (.int .i64 0) (.int .i64 0) (.int .i64 0) (.int .i64 0) (.string { data := #[] }) (.slice none 0 0)=W:=⟨_,rfl⟩
  have hY:=hwz
  unfold set6 at hY
  (try rw[hY])
  obtain⟨hd,hep⟩:=hZ wz hwz.symm
  obtain⟨d0,d1,d2,d3,d4,d5⟩:=hd.cells
  clear hZ
  go_wp2_with fail
  refine bodyPost_ret (v:=exv ⟨0,0,0,0,[]⟩ (.slice none 0 0)) (by simp[results,Tryz.results207,go_sem,d0,d1,d2,d3,d4,d5]) rfl ?_
  exact hep
 obtain⟨t0,t1,t2,t3⟩:=HD3.o.tc.cells
 (try dsimp only at t0 t1 t2 t3)
 have hlT:=HD3.o.tc.lt
 by_cases hk2:tk=2
 ·subst hk2
  obtain⟨-,p1,-,f1,-,hlp⟩:=HD3.o.ms.pat.cells
  have hw1:=HD3.o.ms.w1
  have HD4:=Xj (HD3.o.step (by rw[HKT.o.1];decide))
  clear t0 t1 t2 t3
  obtain⟨t0,t1,t2,t3⟩:=HD3.o.tc.cells
  (try dsimp only at t0 t1 t2 t3)
  go_upto_region 6 with fail
  obtain⟨w4,hw4⟩:∃ W,w3.setCell ⟨K.g,1,none⟩ (.int .i64 ((at_:Int)+1))=W:=⟨_,rfl⟩
  rw[hw4] at HD4
  (try rw[hw4])
  clear hw4 p1 f1 hlp hw1
  obtain⟨t0,t1,t2,t3⟩:=HD4.o.tc.cells
  (try dsimp only at t0 t1 t2 t3)
  have hlT:=HD4.o.tc.lt
  obtain⟨y0,y1,y2,y3,y4,y5⟩:=HD4.o.rc.cells
  obtain⟨g0,g1,g2,g3,g4,g5⟩:=HD4.o.rc.froz
  have hlR:=HD4.o.rc.lt
  go_wp2_with fail
  have hZ:=Ej (lv:=.pr) (at_:=at_) (bad:=false) (rest:=rest) HD4.o.ms HD4.o.rc HD4.o.b1 (Nat.le_of_lt HRT.o) ⟨1,0,tv,tn,[]⟩ none 0 0 (.inl ⟨rfl,rfl,.nil,by have:=Ps.pr_num HKT.o.1;rw[HKT.o.2.1,HKT.o.2.2.1] at this;exact this,Xk.nil _ _,HRT.o⟩)
  obtain⟨wz,hwz⟩:∃ W,set6 w4 gR (.int .i64 1) (.int .i64 0) (.int .i64 tv) (.int .i64 tn) (.string { data := #[] }) (.slice none 0 0)=W:=⟨_,rfl⟩
  have hY:=hwz
  unfold set6 at hY
  (try rw[hY])
  obtain⟨hd,hep⟩:=hZ wz hwz.symm
  obtain⟨d0,d1,d2,d3,d4,d5⟩:=hd.cells
  clear hZ
  go_wp2_with fail
  refine bodyPost_ret (v:=exv ⟨1,0,tv,tn,[]⟩ (.slice none 0 0)) (by simp[results,Tryz.results207,go_sem,d0,d1,d2,d3,d4,d5]) rfl ?_
  exact hep
 have d2:(tk==2)=false:=by rw[beq_eq_false_iff_ne];exact hk2
 by_cases hk1:tk=1
 ·subst hk1
  obtain⟨-,p1,-,f1,-,hlp⟩:=HD3.o.ms.pat.cells
  have hw1:=HD3.o.ms.w1
  have HD4:=Xj (HD3.o.step (by rw[HKT.o.1];decide))
  go_upto_region 9 with fail
  obtain⟨w4,hw4⟩:∃ W,w3.setCell ⟨K.g,1,none⟩ (.int .i64 ((at_:Int)+1))=W:=⟨_,rfl⟩
  rw[hw4] at HD4
  (try rw[hw4])
  clear hw4 p1 f1 hlp hw1
  clear t0 t1 t2 t3 hlT p2 hlp0 d2
  go_wp2_with fail
  refine(Jv K (at_+1) false rest.tail [91] _ HD4.o.ms.pat).mono ?_
  rintro e w5 ⟨at5,r5,rfl,hp5,hg5,hc5⟩
  have HD5:=Xj (HD4.o.call hp5 hg5)
  clear hp5 hg5 HD4
  rcases hc5 with⟨_,hT,rfl,rfl⟩|⟨hT,rfl,rfl⟩
  ·have HT:=Xj hT
   have HRT2:Xq (rest.tail.tail.length<rest.tail.length):=Xj (by
    cases hq:rest.tail with
    | nil=>rw[hq] at hT;cases hT
    | cons y s=>simp)
   (try rw[hT])
   clear hT
   go_wp2_with fail
   refine(HE.o w5 (at_+1+1) false rest.tail.tail HD5.o.ms.pat (.inl ⟨by first|rfl|trivial,by have:=HRT.o;have:=HRT2.o;omega⟩)).mono ?_
   rintro e w7 ⟨h,a,n,c,bad7,at7,r7,rfl,hp7,He,hg7,hI⟩
   have HD7:=Xj ((HD5.o.call hp7 hg7).be (Xw w7 (.cells (ecs h (.slice a n c)) 37)))
   have HX7:=Xj (Lc.new w7 h (.slice a n c))
   have HS7:=Xj (And.intro hg7.size He)
   have hqz:Xq ((bad7=false/\∃ ar,Ps .ex rest.tail.tail (.ok (Xb h ar) r7)/\Xk (w7.alloc (.cells (ecs h (.slice a n c)) 37)) (λ b=>w5.heap.size<=b/\b≠w7.heap.size) ar (.slice a n c)/\r7.length<rest.tail.tail.length)\/(bad7=true/\Ps .ex rest.tail.tail (.bad r7))):=Xj (by
    rcases hI.o with⟨_,h1,ar,h2,h3,h4⟩|⟨_,h1,h2⟩|⟨h1,_⟩
    ·exact .inl ⟨h1,ar,h2,Yr _ h3,h4⟩
    ·exact .inr ⟨h1,h2⟩
    cases h1)
   clear hI hp7 hg7 He
   go_upto_region 11 with fail
   obtain⟨w8,hw8⟩:∃ W,w7.alloc (.cells (ecs h (.slice a n c)) 37)=W:=⟨_,rfl⟩
   obtain⟨gx,hgx⟩:∃ x,w7.heap.size=x:=⟨_,rfl⟩
   (try rw[show w7.alloc (.cells #[.int .i64 h.k,.int .i64 h.op,.int .i64 h.v,.int .i64 h.ln,.string (st h.nm),.slice a n c] 37)=w8 from hw8])
   rw[hw8,hgx] at HX7 hqz
   rw[hw8] at HD7
   rw[hgx] at HS7
   (try rw[hgx])
   clear hw8 hgx
   go_wp2_with fail
   refine(Un K at7 bad7 r7 [93] _ HD7.o.ms.pat).mono ?_
   rintro e w9 ⟨at9,bad9,r9,rfl,hp9,hg9,hc9⟩
   have HD9:=Xj (HD7.o.call hp9 hg9)
   have HX9:=Xj (HX7.o.gr hg9 (by have:=HD5.o.tc.lt;have:=HD5.o.b1;have:=HD5.o.b2;have:=HS7.o.1;have:=HD5.o.ms.gl;omega))
   have hgl:=HD7.o.ms.gl
   have HRS9:Xq (r9.length<=rest.length/\((bad9=false/\∃ ar,Ps .pr rest (.ok (nd 4 0 0 tn tt (Xb h ar)) r9)/\Xk w9 (λ b=>w.heap.size<=b/\b≠gR) ar (.slice a n c)/\r9.length<rest.length)\/(bad9=true/\Ps .pr rest (.bad r9)))):=Xj (by
    have hs1:=HRT.o
    have hs2:=HRT2.o
    have hs3:=HS7.o
    have hs5:=HD5.o.ms.gr.size
    have hs6:=HD5.o.rc.lt
    rcases hc9 with⟨q1,q2,q3,q4,q5⟩|⟨q1,q2,q4,q5⟩
    ·have hle:r9.length<=r7.length:=by rw[q5];simp
     refine⟨by omega,?_⟩
     rcases hqz.o with⟨h1,ar,h2,h3,h4⟩|⟨h1,h2⟩
     ·refine .inl ⟨q2,ar,?_,?_,by omega⟩
      ·have:=Ps.pr_el HKT.o.1 HT.o h2 q3
       rw[HKT.o.2.1,HKT.o.2.2.2] at this
       rw[q5];exact this
      exact Xg (Zu h3 hg9 (λ b hb=>by have:=hb.1;omega)) (λ b hb _=>⟨by omega,by omega⟩)
     rw[q1] at h1;cases h1
    rw[q5]
    refine⟨by omega,.inr ⟨q2,?_⟩⟩
    rcases hqz.o with⟨h1,ar,h2,h3,h4⟩|⟨h1,h2⟩
    ·exact Ps.pr_el_bad2 HKT.o.1 HT.o h2 (by rw[h1] at q1;simpa using q1)
    exact Ps.pr_el_bad HKT.o.1 HT.o h2)
   clear hp9 hg9 hc9 HD7 HX7
   obtain⟨t0,t1,t2,t3⟩:=HD9.o.tc.cells
   (try dsimp only at t0 t1 t2 t3)
   have hlT:=HD9.o.tc.lt
   obtain⟨y0,y1,y2,y3,y4,y5⟩:=HD9.o.rc.cells
   obtain⟨g0,g1,g2,g3,g4,g5⟩:=HD9.o.rc.froz
   have hlR:=HD9.o.rc.lt
   obtain⟨q0,q1,q2,q3,q4,q5⟩:=HX9.o.cells
   have hlX:=HX9.o.lt
   go_wp2_with fail
   have hZ:=xxq (lv:=.pr) (at_:=at_) (bad:=false) (rest:=rest) (k:=4) (op:=0) (ln:=tn) (nm:=tt) HD9.o.ms HD9.o.rc HD9.o.b1 HRS9.o.1 (by
    rcases HRS9.o.2 with h1|h1
    ·exact .inl ⟨rfl,h1⟩
    exact .inr ⟨rfl,h1⟩)
   obtain⟨wz,hwz⟩:∃ W,(set6 w9 gR (.int .i64 4) (.int .i64 0) (.int .i64 0) (.int .i64 tn) (.string (st tt)) (.slice (some ⟨w9.heap.size,0,none⟩) 1 1)).alloc (.cells #[.int .i64 h.k,.int .i64 h.op,.int .i64 h.v,.int .i64 h.ln,.string (st h.nm),.slice a n c] 37)=W:=⟨_,rfl⟩
   have hY:=hwz
   unfold set6 at hY
   (try rw[hY])
   obtain⟨hd,hep⟩:=hZ wz hwz.symm
   obtain⟨d0,d1,d2,d3,d4,d5⟩:=hd.cells
   clear hZ
   refine bodyPost_ret (v:=exv ⟨4,0,0,tn,tt⟩ (.slice (some ⟨w9.heap.size,0,none⟩) 1 1)) (by simp[results,Tryz.results207,go_sem,d0,d1,d2,d3,d4,d5]) rfl ?_
   exact hep
  have HT:Xq (isT [91] rest.tail=false):=Xj (by simpa using hT)
  (try rw[hT])
  (try rw[HT.o])
  clear hT
  obtain⟨t0,t1,t2,t3⟩:=HD5.o.tc.cells
  (try dsimp only at t0 t1 t2 t3)
  have hlT:=HD5.o.tc.lt
  obtain⟨y0,y1,y2,y3,y4,y5⟩:=HD5.o.rc.cells
  obtain⟨g0,g1,g2,g3,g4,g5⟩:=HD5.o.rc.froz
  have hlR:=HD5.o.rc.lt
  go_wp2_with fail
  have hZ:=Ej (lv:=.pr) (at_:=at_) (bad:=false) (rest:=rest) HD5.o.ms HD5.o.rc HD5.o.b1 (Nat.le_of_lt HRT.o) ⟨13,0,0,tn,tt⟩ none 0 0 (.inl ⟨rfl,rfl,.nil,by have:=Ps.pr_name HKT.o.1 HT.o;rw[HKT.o.2.1,HKT.o.2.2.2] at this;exact this,Xk.nil _ _,HRT.o⟩)
  obtain⟨wz,hwz⟩:∃ W,set6 w5 gR (.int .i64 13) (.int .i64 0) (.int .i64 0) (.int .i64 tn) (.string (st tt)) (.slice none 0 0)=W:=⟨_,rfl⟩
  have hY:=hwz
  unfold set6 at hY
  (try rw[hY])
  obtain⟨hd,hep⟩:=hZ wz hwz.symm
  obtain⟨d0,d1,d2,d3,d4,d5⟩:=hd.cells
  clear hZ
  go_wp2_with fail
  refine bodyPost_ret (v:=exv ⟨13,0,0,tn,tt⟩ (.slice none 0 0)) (by simp[results,Tryz.results207,go_sem,d0,d1,d2,d3,d4,d5]) rfl ?_
  exact hep
 have d1:(tk==1)=false:=by rw[beq_eq_false_iff_ne];exact hk1
 have HK12:=Xj (And.intro hk1 hk2)
 clear hk1 hk2
 go_wp2_with fail
 refine(Jv K at_ false rest [38] _ HD3.o.ms.pat).mono ?_
 rintro e w5 ⟨at5,r5,rfl,hp5,hg5,hc5⟩
 have HD5:=Xj (HD3.o.call hp5 hg5)
 clear hp5 hg5 HD3 t0 t1 t2 t3 hlT p2 hlp0 d1 d2
 rcases hc5 with⟨_,hT,rfl,rfl⟩|⟨hT,rfl,rfl⟩
 ·have HT:=Xj hT
  (try rw[hT])
  clear hT
  go_upto_region 15 with fail
  obtain⟨t0,t1,t2,t3⟩:=HD5.o.tc.cells
  (try dsimp only at t0 t1 t2 t3)
  obtain⟨wd,hwd⟩:∃ W,w5.drew=W:=⟨_,rfl⟩
  have HDd:Xq (PD K w gR gt ⟨tk,tn,tv,tt⟩ (at_+1) false rest.tail wd):=Xj (by rw[<- hwd];exact HD5.o.be (Below.refl _ _).drew)
  have t1d:wd.cell? ⟨gt,1,none⟩=some (.int .i64 tn):=HDd.o.tc.cells.2.1
  refine wp_region_held_drew (S:=λ w'=>w'.cell? ⟨gt,1,none⟩=some (.int .i64 tn)) (by kernel_rfl) (by rw[hwd];exact t1d) (λ hJ=>?_)
  rw[hwd] at hJ ⊢
  clear hwd t0 t1 t2 t3 t1d HD5
  refine tkH 0 62 ?_
  refine tkH 3 65 ?_
  refine tkH 4 66 ?_
  refine rdH 1 λ K0 hK=>?_
  go_simp
  refine(Iy K (at_+1) false rest.tail 1 _ HDd.o.ms.pat (by decide)).mono ?_
  rintro e w6 ⟨at6,bad6,r6,hp6,hg6,hc6⟩
  have HD6:=Xj (HDd.o.call hp6 hg6)
  clear hp6 hg6 HDd
  obtain⟨⟨xk,xn,xv,xt⟩,he,hr6⟩:∃ x:Tk,e=.returned (.agg #[.int .i64 x.k,.int .i64 x.n,.int .i64 x.v,.string (st x.t)])/\Xq (r6.length<=rest.length/\((bad6=false/\Ps .pr rest (.ok (nd 11 0 0 tn x.t .nil) r6)/\r6.length<rest.length)\/(bad6=true/\Ps .pr rest (.bad r6)))):=by
   have hs1:=HRT.o
   rcases hc6 with⟨_,q2,q3,q4,q5,q6⟩|⟨q1,q2,q3,q4,q5⟩
   ·have hle:r6.length<=rest.tail.length:=by rw[q6];simp
    refine⟨hdT rest.tail,q4,Xj ⟨by omega,.inl ⟨q2,?_,by omega⟩⟩⟩
    have:=Ps.pr_func HT.o q3
    rw[HKT.o.2.1] at this
    rw[q6]
    have ht:tOf rest.tail=(hdT rest.tail).t:=by cases rest.tail<;>rfl
    rw[<- ht]
    exact this
   refine⟨⟨0,0,0,[]⟩,q3,Xj ⟨by rw[q5];omega,.inr ⟨q2,?_⟩⟩⟩
   rw[q5]
   exact Ps.pr_func_bad HT.o (by rcases q1 with q1|q1;(cases q1);exact q1)
  subst he
  clear hc6
  have hfd3:∀ W:World,(Instr.field 103 (.agg #[.int .i64 xk,.int .i64 xn,.int .i64 xv,.string (st xt)]) 3).run Tryz.prog W=.ok (.string (st xt)) W:=λ _=>by kernel_rfl
  refine goH hK (by exact HD6.o.tc.cells.2.1) λ hJ=>?_
  clear hK K0
  refine rdH 2 λ K0 hK=>?_
  go_simp
  refine goH hK (by assumption) λ hJ=>?_
  clear hK K0
  refine rdH 5 λ K0 hK=>?_
  go_simp
  refine goH hK (by assumption) λ hJ=>?_
  clear hK K0
  refine rdH 6 λ K0 hK=>?_
  obtain⟨y0,y1,y2,y3,y4,y5⟩:=HD6.o.rc.cells
  obtain⟨g0,g1,g2,g3,g4,g5⟩:=HD6.o.rc.froz
  have hlR:=HD6.o.rc.lt
  go_simp
  refine goH hK (Xy (by have:=HD6.o.b2;omega) hJ) λ hJ=>?_
  clear hK K0
  refine wpAnyH_done (by kernel_rfl) ?_ _
  refine Xz ?_
  clear y0 y1 y2 y3 y4 y5 g0 g1 g2 g3 g4 g5 hlR hJ
  have hZ:=Ej (lv:=.pr) (at_:=at_) (bad:=false) (rest:=rest) HD6.o.ms HD6.o.rc HD6.o.b1 (hr6.o.1) ⟨11,0,0,tn,xt⟩ none 0 0 (by
   rcases hr6.o.2 with⟨h1,h2,h3⟩|⟨h1,h2⟩
   ·exact .inl ⟨rfl,h1,.nil,h2,Xk.nil _ _,h3⟩
   exact .inr (.inl ⟨rfl,h1,h2⟩))
  obtain⟨wz,hwz⟩:∃ W,set6 w6 gR (.int .i64 11) (.int .i64 0) (.int .i64 0) (.int .i64 tn) (.string (st xt)) (.slice none 0 0)=W:=⟨_,rfl⟩
  have hY:=hwz
  unfold set6 at hY
  (try rw[hY])
  obtain⟨hd,hep⟩:=hZ wz hwz.symm
  obtain⟨d0,d1,d2,d3,d4,d5⟩:=hd.cells
  clear hZ
  go_wp2_with fail
  refine bodyPost_ret (v:=exv ⟨11,0,0,tn,xt⟩ (.slice none 0 0)) (by simp[results,Tryz.results207,go_sem,d0,d1,d2,d3,d4,d5]) rfl ?_
  exact hep
 have HT:Xq (isT [38] r5=false):=Xj (by simpa using hT)
 (try rw[hT])
 (try rw[HT.o])
 clear hT
 go_wp2_with fail
 refine(Jv K at5 false r5 [114,101,97,100] _ HD5.o.ms.pat).mono ?_
 rintro e w6 ⟨at6,r6,rfl,hp6,hg6,hc6⟩
 have HD6:=Xj (HD5.o.call hp6 hg6)
 clear hp6 hg6 HD5
 rcases hc6 with⟨_,hT2,rfl,rfl⟩|⟨hT2,rfl,rfl⟩
 ·have HT2:=Xj hT2
  (try rw[hT2])
  clear hT2
  obtain⟨t0,t1,t2,t3⟩:=HD6.o.tc.cells
  (try dsimp only at t0 t1 t2 t3)
  have hlT:=HD6.o.tc.lt
  obtain⟨y0,y1,y2,y3,y4,y5⟩:=HD6.o.rc.cells
  obtain⟨g0,g1,g2,g3,g4,g5⟩:=HD6.o.rc.froz
  have hlR:=HD6.o.rc.lt
  go_wp2_with fail
  have hZ:=Ej (lv:=.pr) (at_:=at5) (bad:=false) (rest:=r5) HD6.o.ms HD6.o.rc HD6.o.b1 (Nat.le_of_lt HRT.o) ⟨12,0,0,tn,[]⟩ none 0 0 (.inl ⟨rfl,rfl,.nil,by have:=Ps.pr_read HT2.o;rw[HKT.o.2.1] at this;exact this,Xk.nil _ _,HRT.o⟩)
  obtain⟨wz,hwz⟩:∃ W,set6 w6 gR (.int .i64 12) (.int .i64 0) (.int .i64 0) (.int .i64 tn) (.string { data := #[] }) (.slice none 0 0)=W:=⟨_,rfl⟩
  have hY:=hwz
  unfold set6 at hY
  (try rw[hY])
  obtain⟨hd,hep⟩:=hZ wz hwz.symm
  obtain⟨d0,d1,d2,d3,d4,d5⟩:=hd.cells
  clear hZ
  go_wp2_with fail
  refine bodyPost_ret (v:=exv ⟨12,0,0,tn,[]⟩ (.slice none 0 0)) (by simp[results,Tryz.results207,go_sem,d0,d1,d2,d3,d4,d5]) rfl ?_
  exact hep
 have HT2:Xq (isT [114,101,97,100] r6=false):=Xj (by simpa using hT2)
 (try rw[hT2])
 (try rw[HT2.o])
 clear hT2
 go_wp2_with fail
 refine(Un K at6 false r6 [40] _ HD6.o.ms.pat).mono ?_
 rintro e w7 ⟨at7,bad7,r7,rfl,hp7,hg7,hc7⟩
 have HD7:=Xj (HD6.o.call hp7 hg7)
 have HC7:=Xj hc7
 clear hp7 hg7 HD6 hc7
 go_wp2_with fail
 refine(HE.o w7 at7 bad7 r7 HD7.o.ms.pat (by
  rcases HC7.o with⟨_,q2,q3,q4,q5⟩|⟨q1,q2,q4,q5⟩
  ·exact .inl ⟨by first|rfl|trivial,by rw[q5];exact HRT.o⟩
  exact .inr ⟨by first|rfl|trivial,q2⟩)).mono ?_
 rintro e w8 ⟨h,a,n,c,bad8,at8,r8,rfl,hp8,hle8,hg8,hyp⟩
 have HD8:=Xj ((HD7.o.call hp8 hg8).be (Xw w8 (.cells (ecs h (.slice a n c)) 37)))
 have HX8:=Xj (Lc.new w8 h (.slice a n c))
 have HS8:=Xj (And.intro hg8.size hle8)
 have hjp:Xq ((bad8=false/\bad7=false/\∃ ar,Ps .ex r7 (.ok (Xb h ar) r8)/\Xk (w8.alloc (.cells (ecs h (.slice a n c)) 37)) (λ b=>w7.heap.size<=b/\b≠w8.heap.size) ar (.slice a n c)/\r8.length<r7.length)\/(bad8=true/\bad7=false/\Ps .ex r7 (.bad r8))\/(bad7=true/\bad8=true/\r8=r7)):=Xj (by
  rcases hyp.o with⟨h0,h1,ar,h2,h3,h4⟩|⟨h0,h1,h2⟩|⟨h0,h1,_,h2⟩
  ·exact .inl ⟨h1,h0,ar,h2,Yr _ h3,h4⟩
  ·exact .inr (.inl ⟨h1,h0,h2⟩)
  exact .inr (.inr ⟨h0,h1,h2⟩))
 clear hyp hp8 hg8 hle8
 go_upto_region 20 with fail
 obtain⟨w9,hw9⟩:∃ W,w8.alloc (.cells (ecs h (.slice a n c)) 37)=W:=⟨_,rfl⟩
 obtain⟨gx,hgx⟩:∃ x,w8.heap.size=x:=⟨_,rfl⟩
 (try rw[show w8.alloc (.cells #[.int .i64 h.k,.int .i64 h.op,.int .i64 h.v,.int .i64 h.ln,.string (st h.nm),.slice a n c] 37)=w9 from hw9])
 rw[hw9,hgx] at HX8 hjp
 rw[hw9] at HD8
 rw[hgx] at HS8
 (try rw[hgx])
 clear hw9 hgx
 go_wp2_with fail
 refine(Un K at8 bad8 r8 [41] _ HD8.o.ms.pat).mono ?_
 rintro e wE ⟨atE,badE,rE,rfl,hpE,hgE,hcE⟩
 have HDE:=Xj (HD8.o.call hpE hgE)
 have HXE:=Xj (HX8.o.gr hgE (by have:=HD7.o.tc.lt;have:=HD7.o.b1;have:=HD7.o.b2;have:=HS8.o.1;have:=HD7.o.ms.gl;omega))
 have hgl:=HD8.o.ms.gl
 have HRSE:Xq (rE.length<=r6.length/\((badE=false/\∃ ar,Ps .pr r6 (.ok (Xb h ar) rE)/\Xk wE (λ b=>w.heap.size<=b/\b≠gR) ar (.slice a n c)/\rE.length<r6.length)\/(badE=true/\Ps .pr r6 (.bad rE)))):=Xj (by
  have hs1:=HRT.o
  have hs3:=HS8.o
  have hs5:=HD7.o.ms.gr.size
  have hs6:=HD7.o.rc.lt
  have hk1:=HK12.o
  have hkt:=HKT.o.1
  have hle:rE.length<=r8.length:=by
   rcases hcE with⟨_,_,_,_,q5⟩|⟨_,_,_,q5⟩
   ·rw[q5];simp
   rw[q5];exact Nat.le_refl _
  rcases HC7.o with⟨_,b7,h40,_,e7⟩|⟨h40,b7,_,e7⟩
  ·have hs7:r7.length<r6.length:=by rw[e7];exact hs1
   refine⟨by omega,?_⟩
   rcases hjp.o with⟨h1,_,ar,h2,h3,h4⟩|⟨h1,_,h2⟩|⟨h1,_⟩
   ·rcases hcE with⟨_,q2,q3,_,q5⟩|⟨q1,q2,_,q5⟩
    ·refine .inl ⟨q2,ar,?_,?_,by omega⟩
     ·rw[e7] at h2
      rw[q5]
      exact Ps.pr_par h40 h2 q3
     exact Xg (Zu h3 hgE (λ b hb=>by have:=hb.1;omega)) (λ b hb _=>⟨by omega,by omega⟩)
    refine .inr ⟨q2,?_⟩
    rw[e7] at h2
    rw[q5]
    exact Ps.pr_par_bad2 h40 h2 (by rw[h1] at q1;simpa using q1)
   ·rcases hcE with⟨q1,q2,q3,_,q5⟩|⟨q1,q2,_,q5⟩
    ·rw[q1] at h1;cases h1
    refine .inr ⟨q2,?_⟩
    rw[e7] at h2
    rw[q5]
    exact Ps.pr_par_bad h40 h2
   rw[b7] at h1;cases h1
  have h40:isT [40] r6=false:=by simpa using h40
  rcases hjp.o with⟨_,h1,_⟩|⟨_,h1,_⟩|⟨_,h1,h2⟩
  ·rw[b7] at h1;cases h1
  ·rw[b7] at h1;cases h1
  rcases hcE with⟨q1,q2,q3,_,q5⟩|⟨q1,q2,_,q5⟩
  ·rw[q1] at h1;cases h1
  have e9:rE=r6:=by rw[q5,h2,e7]
  rw[e9]
  exact⟨Nat.le_refl _,.inr ⟨q2,Ps.pr_bad (by rw[hkt];exact hk1.1) (by rw[hkt];exact hk1.2) HT.o HT2.o h40⟩⟩)
 clear hpE hgE hcE HD8 HX8 hjp
 obtain⟨y0,y1,y2,y3,y4,y5⟩:=HDE.o.rc.cells
 obtain⟨g0,g1,g2,g3,g4,g5⟩:=HDE.o.rc.froz
 have hlR:=HDE.o.rc.lt
 obtain⟨q0,q1,q2,q3,q4,q5⟩:=HXE.o.cells
 have hlX:=HXE.o.lt
 go_wp2_with fail
 have hZ:=Ej (lv:=.pr) (at_:=at6) (bad:=false) (rest:=r6) HDE.o.ms HDE.o.rc HDE.o.b1 HRSE.o.1 h a n c (by
  rcases HRSE.o.2 with h1|h1
  ·exact .inl ⟨rfl,h1⟩
  exact .inr (.inl ⟨rfl,h1⟩))
 obtain⟨wz,hwz⟩:∃ W,set6 wE gR (.int .i64 h.k) (.int .i64 h.op) (.int .i64 h.v) (.int .i64 h.ln) (.string (st h.nm)) (.slice a n c)=W:=⟨_,rfl⟩
 have hY:=hwz
 unfold set6 at hY
 (try rw[hY])
 obtain⟨hd,hep⟩:=hZ wz hwz.symm
 obtain⟨d0,d1,d2,d3,d4,d5⟩:=hd.cells
 clear hZ
 refine bodyPost_ret (v:=exv h (.slice a n c)) (by simp[results,Tryz.results207,go_sem,d0,d1,d2,d3,d4,d5]) rfl ?_
 exact hep
end
section
theorem xxb {s t:Bt} {ts:List Tk} (h:isT s ts=true) (k:isT t ts=true):s=t:=by
 cases ts with
 | nil=>cases h
 | cons x r =>
  simp only[isT,Bool.and_eq_true,beq_iff_eq] at h k
  exact h.2.symm.trans k.2
theorem xxu {s t:Bt} {ts:List Tk} (h:isT s ts=true) (hn:s≠t):isT t ts=false:=by
 cases hk:isT t ts
 ·rfl
 exact absurd (xxb h hk) hn
def CLc (rest:List Tk) (x:Fo) (r:List Tk):Prop:=∀ z,Ps (.caL ((Hm x).k==13&&kOf rest==1) x) r z->Ps .ca rest z
theorem RS.own {K:PC} {w wx wy:World} {at2:Nat} {bad:Bool} {r:List Tk} {row:Option Nat} (h:RS K w wx at2 bad r) (hg:wx.grownBy wy row) (hjz:∀ k,row=some k->w.heap.size<=k):RS K w wy at2 bad r :=
 ⟨h.pat.grown hg (λ k e=>⟨by have:=hjz k e;have:=h.gl;omega,λ x hx=>by have:=hjz k e;have:=h.tl x hx;omega⟩),
  ⟨hg.os.trans h.gr.os,hg.tape.trans h.gr.tape,hg.output.trans h.gr.output,Nat.le_trans h.gr.size hg.size,λ k hk hn=>(hg.block k (by have:=h.gr.size;omega) (λ e=>by have:=hjz k e.symm;omega)).trans (h.gr.block k hk hn)⟩,h.gl,h.tl⟩
theorem Lt.grw {wx wy:World} {b:Nat} {x:Tk} {row:Option Nat} (k:Lt wx b x) (hg:wx.grownBy wy row) (hn:row≠some b):Lt wy b x:=(hg.block b k.lt (λ e=>hn e.symm)).trans k
theorem Lt.s6o {wx:World} {b g:Nat} {x:Tk} {v0 v1 v2 v3 v4 v5:Value} (k:Lt wx b x) (hn:b≠g):Lt (set6 wx g v0 v1 v2 v3 v4 v5) b x:=(Yq b hn).trans k
abbrev TBj (w:World) (gR gx:Nat) (v:Value):Nat->Prop:=λ b=>TBk w gR gx b/\some b≠v.ownBlock
structure CJ (K:PC) (w:World) (gR gt gx:Nat) (x0:Tk) (h:Hd) (sl:Value) (ar:Fo) (v:Value) (nn:Nat) (xs:List Value) (at2:Nat) (bad2:Bool) (r:List Tk) (wx:World):Prop where
 ms:RS K w wx at2 bad2 r
 rc:Lc wx gR zhd (.slice none 0 0)
 tc:Lt wx gt x0
 xc:Lc wx gx h sl
 own:wx.ownsRow w.heap.size 37 6 v nn xs
 ne:w.heap.size<=gR/\gR<gt/\gt<gx/\v.ownBlock≠some gR/\v.ownBlock≠some gt/\v.ownBlock≠some gx
 ax:Xk wx (TBj w gR gx v) ar sl
def FJ (w:World) (gR gx:Nat) (v:Value) (nn:Nat) (xs:List Value) (F:Fo) (wx:World):Prop:=Zb wx (TBj w gR gx v) F xs/\F.len=nn
section
variable {K:PC} {w wx wy:World} {gR gt gx:Nat} {x0:Tk} {h:Hd} {sl:Value} {ar:Fo} {v:Value} {nn:Nat} {xs:List Value} {at2 at3:Nat} {bad2 bad3:Bool} {r r3:List Tk} {F:Fo}
theorem CJ.gr (k:CJ K w gR gt gx x0 h sl ar v nn xs at2 bad2 r wx) (hp:RAt wy K at3 bad3 r3) (hg:wx.grownBy wy (some K.g)):CJ K w gR gt gx x0 h sl ar v nn xs at3 bad3 r3 wy:=by
 have hl:=k.ms.gl
 obtain⟨n1,n2,n3,n4,n5,n6⟩:=k.ne
 exact⟨k.ms.call hp hg,k.rc.gr hg (by omega),k.tc.gr hg (by omega),k.xc.gr hg (by omega),Yx k.own hg hl,k.ne,Zu k.ax hg (λ b hb=>by have:=hb.1.1;omega)⟩
theorem CJ.be (k:CJ K w gR gt gx x0 h sl ar v nn xs at2 bad2 r wx) (hb:Below wx.heap.size wx wy):CJ K w gR gt gx x0 h sl ar v nn xs at2 bad2 r wy :=
 k.gr (k.ms.be hb).pat (Xm hb _)
theorem FJ.gr (f:FJ w gR gx v nn xs F wx) {g:Nat} (hg:wx.grownBy wy (some g)) (h0:g<w.heap.size):FJ w gR gx v nn xs F wy :=
 ⟨f.1.keep (λ b hb hlt=>⟨hg.block b hlt (λ e=>by injection e with e;have:=hb.1.1;omega),hb⟩) hg.size,f.2⟩
theorem FJ.nil (w:World) (gR gx:Nat) (wx:World):FJ w gR gx (.slice none 0 0) 0 [] .nil wx:=⟨rfl,rfl⟩
theorem CJ.push (k:CJ K w gR gt gx x0 h sl ar v nn xs at2 bad2 r wx) {ob:Obj} {g9 c9:Nat} {w9:World} {xs9:List Value} (hg9:(wx.alloc ob).grownBy w9 v.ownBlock) (h9:v.ownBlock=some g9\/g9=(wx.alloc ob).heap.size)
  (ho:w9.ownsRow w.heap.size 37 6 (.slice (some ⟨g9,0,none⟩) (nn+1) c9) (nn+1) xs9) :
  CJ K w gR gt gx x0 h sl ar (.slice (some ⟨g9,0,none⟩) (nn+1) c9) (nn+1) xs9 at2 bad2 r w9:=by
 have ka:=k.be (Xw wx ob)
 obtain⟨n1,n2,n3,n4,n5,n6⟩:=k.ne
 have l1:=ka.rc.lt
 have l2:=ka.tc.lt
 have l3:=ka.xc.lt
 have hsA:(wx.alloc ob).heap.size=wx.heap.size+1:=by simp
 have q7:g9≠gR:=by rcases h9 with e|e;(intro e2;rw[e,e2] at n4;exact n4 rfl);omega
 have q8:g9≠gt:=by rcases h9 with e|e;(intro e2;rw[e,e2] at n5;exact n5 rfl);omega
 have q9:g9≠gx:=by rcases h9 with e|e;(intro e2;rw[e,e2] at n6;exact n6 rfl);omega
 refine⟨ka.ms.own hg9 (λ k2 e=>(k.own.lt k2 e).1),ka.rc.grw hg9 n4,ka.tc.grw hg9 n5,ka.xc.grw hg9 n6,ho,⟨n1,n2,n3,?_,?_,?_⟩,?_⟩
 ·show some g9≠some gR;simp;exact q7
 ·show some g9≠some gt;simp;exact q8
 ·show some g9≠some gx;simp;exact q9
 refine k.ax.keep (λ b hb hlt=>⟨(hg9.block b (by omega) hb.2).trans (Below.heap_alloc wx ob b hlt),hb.1,?_⟩) (by have:=hg9.size;omega)
 show some b≠some g9
 rcases h9 with e|e
 ·rw[<- e];exact hb.2
 simp;omega
theorem FJ.push (f:FJ w gR gx v nn xs F wx) {h2:Hd} {s2:Value} {ar2:Fo} (ha:Xk wx (TBj w gR gx v) ar2 s2) {ob:Obj} {g9 c9:Nat} {w9:World} (hg9:(wx.alloc ob).grownBy w9 v.ownBlock) (h9:v.ownBlock=some g9\/g9=(wx.alloc ob).heap.size) :
  FJ w gR gx (.slice (some ⟨g9,0,none⟩) (nn+1) c9) (nn+1) (xs++hdc h2 s2) (F.app (Xb h2 ar2)) w9:=by
 have hsA:(wx.alloc ob).heap.size=wx.heap.size+1:=by simp
 have hs9:=hg9.size
 have key:∀ b,TBj w gR gx v b->b<wx.heap.size->w9.heap[b]?=wx.heap[b]?/\TBj w gR gx (.slice (some ⟨g9,0,none⟩) (nn+1) c9) b:=λ b hb hlt =>
  ⟨(hg9.block b (by omega) hb.2).trans (Below.heap_alloc wx ob b hlt),hb.1,by
   show some b≠some g9
   rcases h9 with e|e
   ·rw[<- e];exact hb.2
   simp;omega⟩
 exact⟨Zb.app (f.1.keep key (by omega)) (Xk.one (ha.keep key (by omega))),by rw[Fo.len_app,f.2];rfl⟩
theorem CJ.shape (k:CJ K w gR gt gx x0 h sl ar v nn xs at2 bad2 r wx):∃ a c,v=.slice a nn c:=by
 rcases k.own.2 with⟨e,e2⟩|⟨g9,cap,cur,e,_⟩
 ·exact⟨none,0,by rw[e,e2]⟩
 exact⟨_,_,e⟩
theorem CJ.args (k:CJ K w gR gt gx x0 h sl ar v nn xs at2 bad2 r wx) (f:FJ w gR gx v nn xs F wx):Xk wx (TBk w gR gx) F v :=
 Xk.of_own (e:=37) (size:=6) (base:=w.heap.size) (by rw[f.2];exact k.own) (f.1.keep (λ b hb _=>⟨rfl,hb.1⟩) (Nat.le_refl _)) (λ b hb=>⟨(k.own.lt b hb).1,λ e=>k.ne.2.2.2.1 (by rw[hb,e]),λ e=>k.ne.2.2.2.2.2 (by rw[hb,e])⟩)
def xzu (K:PC) (w:World) (gR gx:Nat) (r0:List Tk) (v:Value) (nn:Nat) (xs:List Value) (bad3:Bool) (r3:List Tk) (wx:World):Prop :=
 (bad3=false/\∃ F,FJ w gR gx v nn xs F wx/\Ps (.ag true .nil) r0.tail (.ok F r3)/\r3.length<r0.tail.length)\/(bad3=true/\Ps (.ag true .nil) r0.tail (.bad r3))
theorem CJ.name (k:CJ K w gR gt gx x0 h sl ar v nn xs at2 bad2 r wx) {rest r0:List Tk} {at_:Nat} {bad:Bool} {a:Option Addr} {c:Nat} {ln:Int} (hv:v=.slice a nn c) (hle:r.length<=rest.length) (hr0:r0.length<rest.length) (hj:xzu K w gR gx r0 v nn xs bad2 r wx) (hT:isT [40] r0=true) (hc:CLc rest (Xb h ar) r0) (h13:h.k=13) (hk1:kOf rest=1) (hln:Yb r0=ln) :
  LQ K w gR gx .ca (CLc rest) at_ false rest ⟨9,0,0,ln,h.nm⟩ a nn c bad2 at2 r (set6 wx gx (.int .i64 9) (.int .i64 0) (.int .i64 0) (.int .i64 ln) (.string (st h.nm)) (.slice a nn c))/\Lt (set6 wx gx (.int .i64 9) (.int .i64 0) (.int .i64 0) (.int .i64 ln) (.string (st h.nm)) (.slice a nn c)) gt x0:=by
 obtain⟨n1,n2,n3,n4,n5,n6⟩:=k.ne
 refine⟨⟨k.ms.s6 (by omega) _ _ _ _ _ _,k.rc.s6o (by omega),k.xc.s6 ⟨9,0,0,ln,h.nm⟩ _,hle,?_⟩,k.tc.s6o (by omega)⟩
 have hpl:((Hm (Xb h ar)).k==13&&kOf rest==1)=true:=by rw[hk1];show (h.k==13&&_)=true;rw[h13];rfl
 rcases hj with⟨h1,F,h2,h3,h4⟩|⟨h1,h2⟩
 ·refine .inl ⟨rfl,h1,F,λ z hz=>hc z ?_,Yz (hv▸k.args h2) (λ b hb=>hb.2.2),by have:r0.tail.length<=r0.length:=(by simp);omega⟩
  rw[hpl]
  refine Ps.caL_call hT h3 ?_
  have:((Hm (Xb ⟨9,0,0,ln,h.nm⟩ F)).k==13&&kOf rest==1)=false:=rfl
  rw[this] at hz
  rw[hln]
  exact hz
 refine .inr (.inl ⟨rfl,h1,hc _ ?_⟩)
 exact Ps.caL_bad hT h2
theorem CJ.value (k:CJ K w gR gt gx x0 h sl ar v nn xs at2 bad2 r wx) {rest r0:List Tk} {at_:Nat} {bad:Bool} {ln:Int} {g9 c9:Nat} {w9:World} (hle:r.length<=rest.length) (hr0:r0.length<rest.length) (hj:xzu K w gR gx r0 v nn xs bad2 r wx) (hT:isT [40] r0=true) (hc:CLc rest (Xb h ar) r0) (hpl:(h.k==13&&kOf rest==1)=false) (hln:Yb r0=ln)
  (hg9:(wx.alloc (.cells #[.int .i64 h.k,.int .i64 h.op,.int .i64 h.v,.int .i64 h.ln,.string (st h.nm),sl] 37)).grownBy w9 (some wx.heap.size)) (h9:some wx.heap.size=some g9\/g9=(wx.alloc (.cells #[.int .i64 h.k,.int .i64 h.op,.int .i64 h.v,.int .i64 h.ln,.string (st h.nm),sl] 37)).heap.size)
  (ho:w9.ownsRow w.heap.size 37 6 (.slice (some ⟨g9,0,none⟩) (1+nn) c9) (1+nn) (hdc h sl++xs)) :
  LQ K w gR gx .ca (CLc rest) at_ false rest ⟨10,0,0,ln,[]⟩ (some ⟨g9,0,none⟩) (1+nn) c9 bad2 at2 r (set6 w9 gx (.int .i64 10) (.int .i64 0) (.int .i64 0) (.int .i64 ln) (.string { data := #[] }) (.slice (some ⟨g9,0,none⟩) (1+nn) c9))/\Lt (set6 w9 gx (.int .i64 10) (.int .i64 0) (.int .i64 0) (.int .i64 ln) (.string { data := #[] }) (.slice (some ⟨g9,0,none⟩) (1+nn) c9)) gt x0 /\
  Lc w9 gx h sl:=by
 obtain⟨n1,n2,n3,n4,n5,n6⟩:=k.ne
 have ka:=k.be (Xw wx (.cells #[.int .i64 h.k,.int .i64 h.op,.int .i64 h.v,.int .i64 h.ln,.string (st h.nm),sl] 37))
 have hsA:(wx.alloc (.cells #[.int .i64 h.k,.int .i64 h.op,.int .i64 h.v,.int .i64 h.ln,.string (st h.nm),sl] 37)).heap.size=wx.heap.size+1:=by simp
 have l1:=k.rc.lt
 have l2:=k.tc.lt
 have l3:=k.xc.lt
 have hs9:=hg9.size
 have hsw:=k.ms.gr.size
 have hgw:w.heap.size<=g9:=by rcases h9 with e|e;(injection e with e;omega);omega
 have hgx:gx<g9:=by rcases h9 with e|e;(injection e with e;omega);omega
 have key:∀ b,TBj w gR gx v b->b<wx.heap.size->w9.heap[b]?=wx.heap[b]?/\TBk w gR gx b:=λ b hb hlt =>
  ⟨(hg9.block b (by omega) (λ e=>by injection e with e;omega)).trans (Below.heap_alloc wx _ b hlt),hb.1⟩
 refine⟨⟨(ka.ms.own hg9 (λ k2 e=>by injection e with e;omega)).s6 (by omega) _ _ _ _ _ _,(ka.rc.gr hg9 (by omega)).s6o (by omega),(ka.xc.gr hg9 (by omega)).s6 ⟨10,0,0,ln,[]⟩ _,hle,?_⟩,(ka.tc.gr hg9 (by omega)).s6o (by omega),ka.xc.gr hg9 (by omega)⟩
 rcases hj with⟨h1,F,h2,h3,h4⟩|⟨h1,h2⟩
 ·refine .inl ⟨rfl,h1,(Xb h ar).app F,λ z hz=>hc z ?_,?_,by have:r0.tail.length<=r0.length:=(by simp);omega⟩
  ·have e1:((Hm (Xb h ar)).k==13&&kOf rest==1)=false:=hpl
   rw[e1]
   refine Ps.caL_value hT h3 ?_
   have:((Hm (Xb ⟨10,0,0,ln,[]⟩ ((Xb h ar).app F))).k==13&&kOf rest==1)=false:=rfl
   rw[this] at hz
   rw[hln]
   exact hz
  refine Yz (Xk.of_own (e:=37) (size:=6) (base:=w.heap.size) (xs:=hdc h sl++xs) ?_ ?_ ?_) (λ b hb=>hb.2.2)
  ·have:((Xb h ar).app F).len=1+nn:=by rw[Fo.len_app,h2.2];rfl
   rw[this]
   exact ho
  ·exact Zb.app (Xk.one (k.ax.keep key (by omega))) (h2.1.keep key (by omega))
  intro b hb
  have hb2:g9=b:=by have hb3:some g9=some b:=hb;injection hb3
  rw[<- hb2]
  exact⟨hgw,by omega,by omega⟩
 exact .inr (.inl ⟨rfl,h1,hc _ (Ps.caL_bad hT h2)⟩)
end
end
end Go.Proofs.YtldgghnjminhiaaGreatDoor
