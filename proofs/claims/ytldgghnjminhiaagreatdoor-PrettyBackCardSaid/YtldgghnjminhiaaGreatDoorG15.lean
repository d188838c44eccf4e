/-
  WORDS, PLAIN LAWS and WALKS (PbP PxP PxL Mrf QsW QsV QsX QsD), pressed. (Filled in from templates of this repo.)
-/
import Derived.Test.YtldgghnjminhiaaGreatDoorG7
import Derived.Test.YtldgghnjminhiaaGreatDoorG8
import Derived.Test.YtldgghnjminhiaaGreatDoorG12
import Derived.Test.YtldgghnjminhiaaGreatDoorG14
import Derived.Lib.AtoiAllCases
import Derived.Deep.CutBlock
import Derived.Deep.CutRange
import Derived.Laws.AppendOwn
import Derived.Test.YtldgghnjminhiaaGreatDoorG2
import Derived.Test.YtldgghnjminhiaaGreatDoorG10
import Derived.Test.YtldgghnjminhiaaGreatDoorG11
namespace Go.Proofs.YtldgghnjminhiaaGreatDoor
open Go Go.ChangeAt Go.ChangeShapes Go.RowKit Go.WideShapes
set_option linter.unusedVariables false
set_option linter.unusedSimpArgs false
set_option maxRecDepth 100000
set_option maxHeartbeats 16000000
theorem xvl {T:Bt} {w w':World} {e:Ending} (h:Rs T w e w') (hT:T.length<=65536) {gs:List (Bt×Int)} (hg:∀ x∈gs,0<=x.2/\x.2<=5) {Fs:List Fn} (hl:∀ F∈Fs,F.bd.wf)
  {ys:List Tk} {ln:Int} (hs:scan T=(some (ys++[⟨0,ln,0,[]⟩]),0)) (hu:unl ys=Hu gs Fs) :
  Below w.heap.size w w'/\∃ (fs:List Fu) (va vb:Value),e=.returned (.tuple #[sov va vb,.int .i64 0,.int .i64 0])/\Jy w' (λ _=>True) gs fs va vb/\Jq false fs (Fs.map fnU)=true:=by
 refine⟨h.1,?_⟩
 rcases h.2 with⟨h1,_⟩|⟨_,h1,_⟩|⟨_,ts,y,h1,h2⟩
 ·omega
 ·rw[hs] at h1;cases h1
 rw[hs] at h1
 injection h1 with h1
 subst h1
 obtain⟨fs,r,hso,heq⟩:=xzz gs hg Fs hl hu (ln:=ln)
 have hy:=h2.o.1.det hso
 subst hy
 rcases h2.o.2 with⟨gs2,fs2,wr,r2,va,vb,e1,e2,e3,e4⟩|⟨gs2,fs2,wr,r2,e1,e2,e3⟩|⟨r2,e1,e2⟩
 ·injection e1 with e5 e6 _ _
  subst e5 e6
  exact⟨fs,va,vb,e4,e3.keep (λ b _ _=>⟨rfl,trivial⟩) (Nat.le_refl _),heq⟩
 ·injection e1 with _ _ e5 _
  subst e5
  exact absurd e2 (by omega)
 cases e1
theorem okH.pr {h:Hd} {ar:Fo} (k:okH h ar):prH h ar/\ar.len<=3:=by
 rcases k with⟨_,_,k⟩|⟨_,k,_,k0,k1,rfl⟩|⟨_,_,k⟩
 ·rcases k with⟨k,_,rfl⟩|⟨k,_,rfl⟩|⟨k,_,rfl⟩|⟨k,_,hl⟩|⟨k,_,hl⟩|⟨k,_,hl⟩|⟨k,_,g,bs,r0,rfl,_,hr⟩
  ·exact⟨.inl (.inl k),by simp[Fo.len]⟩
  ·exact⟨.inr (.inl k),by simp[Fo.len]⟩
  ·exact⟨.inr (.inr (.inl k)),by simp[Fo.len]⟩
  ·exact⟨.inr (.inr (.inr (.inr (.inl ⟨k,hl⟩)))),by omega⟩
  ·rcases k with k|k
   ·exact⟨.inr (.inr (.inr (.inr (.inr (.inr (.inr (.inl ⟨k,hl⟩))))))),by omega⟩
   exact⟨.inr (.inr (.inr (.inr (.inr (.inr (.inr (.inr (.inl ⟨k,hl⟩)))))))),by omega⟩
  ·exact⟨.inr (.inr (.inr (.inr (.inr (.inr (.inr (.inr (.inr (.inl k))))))))),by omega⟩
  exact⟨.inr (.inr (.inr (.inr (.inr (.inr (.inr (.inr (.inr (.inr ⟨k,by simp[Fo.len]⟩))))))))),by simp only[Fo.len];omega⟩
 ·exact⟨.inr (.inr (.inr (.inl ⟨k,k0,k1⟩))),by simp[Fo.len]⟩
 rcases k with⟨k,o1,o2,hl⟩|⟨k,o1,o2,hl⟩
 ·exact⟨.inr (.inr (.inr (.inr (.inr (.inl ⟨k,by omega,by omega,hl⟩))))),by omega⟩
 exact⟨.inr (.inr (.inr (.inr (.inr (.inr (.inl ⟨k,by omega,by omega,hl⟩)))))),by omega⟩
theorem Fo.wf.pr {F:Fo} (h:F.wf):F.pr:=by
 induction F with
 | nil=>trivial
 | cons hd ar r ih1 ih2=>exact⟨(okH.pr h.1).1,by have:=(okH.pr h.1).2;omega,ih1 h.2.2.1,ih2 h.2.2.2⟩
theorem Sf.wf.pr {S:Sf} (h:S.wf):S.pr:=by
 induction S with
 | nil=>trivial
 | cons k ln nm xs th el r ih1 ih2 ih3 =>
  obtain⟨h1,_,h2,h3,h4,h5⟩:=h
  refine⟨?_,h2.pr,ih1 h3,ih2 h4,ih3 h5⟩
  rcases h1 with⟨k,_,hl,_⟩|⟨k,_,hl,_⟩|⟨k,_,hl⟩|⟨k,_,hl,he⟩|⟨k,_,hl,_⟩|⟨k,_,_,_,h,ar,rfl,_⟩
  ·exact .inl ⟨by omega,hl⟩
  ·exact .inr (.inl ⟨k,hl⟩)
  ·exact .inr (.inr (.inl ⟨k,hl⟩))
  ·exact .inr (.inr (.inr ⟨k,hl,he⟩))
  ·exact .inl ⟨by omega,hl⟩
  exact .inl ⟨by omega,rfl⟩
theorem Mf {F G:Fo} (h:eqF false F G=true):F.len=G.len:=by
 by_cases e:F.len=G.len
 ·exact e
 rw[Tz e] at h;cases h
theorem xxf {F G:Fo} (h:eqF false F G=true) (hG:G.pr):F.pr:=by
 induction F generalizing G with
 | nil=>trivial
 | cons hd ar r ih1 ih2 =>
  cases G with
  | nil=>cases h
  | cons hd2 ar2 r2 =>
   simp only[eqF,Bool.and_eq_true,beq_iff_eq] at h
   obtain⟨⟨h1,h2,h3,h4,_,h6⟩,h7⟩:=h
   have hl:=Mf h6
   refine⟨?_,by rw[hl];exact hG.2.1,ih1 h6 hG.2.2.1,ih2 h7 hG.2.2.2⟩
   have:=hG.1
   unfold prH at this ⊢
   rw[h1,h2,h3,hl]
   exact this
def kt (os:List (Hd×Bt)):List (Int×Bt):=os.map λ a=>(a.1.k,a.2)
theorem xxy {os ps:List (Hd×Bt)} (h:kt os=kt ps):os.map (·.2)=ps.map (·.2):=by
 have:=congrArg (List.map Prod.snd) h
 unfold kt at this
 rw[List.map_map,List.map_map] at this
 exact this
theorem Sy {h g:Hd} (e:h.k=g.k) (s:Bt):opd h s=opd g s:=by unfold opd Uw;rw[e]
theorem xqc {h g:Hd} {os ps:List (Hd×Bt)} (h1:h.k=g.k) (h2:h.op=g.op) (h3:h.v=g.v) (h4:h.nm=g.nm) (k:kt os=kt ps):Zj h os=Zj g ps:=by
 have k2:=xxy k
 unfold Zj
 rw[h1,h2,h3,h4,k2]
 have one:∀ {a b:Hd×Bt},(a.1.k,a.2)=(b.1.k,b.2)->a.1.k=b.1.k/\a.2=b.2:=λ e=>by injection e with e1 e2;exact⟨e1,e2⟩
 match os,ps,k,k2 with
 | [],[],_,_=>rfl
 | [],_::_,k,_=>cases k
 | _::_,[],k,_=>cases k
 | [a],[b],k,_ =>
  injection k with k _
  obtain⟨e1,e2⟩:=one k
  simp only[e2,Sy e1,e1]
 | [a],b::c::r,k,_=>injection k with _ k;cases k
 | a::c::r,[b],k,_=>injection k with _ k;cases k
 | [a,c],[b,d],k,_ =>
  injection k with k k'
  injection k' with k' _
  obtain⟨e1,e2⟩:=one k
  obtain⟨e3,e4⟩:=one k'
  simp only[e2,e4,Sy e1,Sy e3,e1,List.map_cons,List.map_nil]
 | [a,c],b::d::e::r,k,_=>injection k with _ k;injection k with _ k;cases k
 | a::c::e::r,[b,d],k,_=>injection k with _ k;injection k with _ k;cases k
 | a::c::e::r,b::d::f::q,k,k2 =>
  injection k with k k'
  obtain⟨e1,e2⟩:=one k
  have k3:(c::e::r).map (·.2)=(d::f::q).map (·.2):=by injection k2
  simp only[e2,Sy e1,e1,k3]
theorem xxd {F G:Fo} (h:eqF false F G=true):kt (Yl F)=kt (Yl G):=by
 induction F generalizing G with
 | nil=>cases G with
  | nil=>rfl
  | cons=>cases h
 | cons hd ar r ih1 ih2 =>
  cases G with
  | nil=>cases h
  | cons hd2 ar2 r2 =>
   simp only[eqF,Bool.and_eq_true,beq_iff_eq] at h
   obtain⟨⟨h1,h2,h3,h4,_,h6⟩,h7⟩:=h
   show (hd.k,Zj hd (Yl ar))::kt (Yl r)=(hd2.k,Zj hd2 (Yl ar2))::kt (Yl r2)
   rw[ih2 h7,h1,xqc h1 h2 h3 h4 (ih1 h6)]
theorem Tq {F G:Fo} (h:eqF false F G=true) (i:Nat):Jj F i=Jj G i:=by
 have:=congrArg (λ l:List (Int×Bt)=>(l[i]?).map (·.2)) (xxd h)
 simp only[kt,List.getElem?_map,Option.map_map] at this
 unfold Jj
 cases h1:(Yl F)[i]? with
 | none=>cases h2:(Yl G)[i]? with
  | none=>rfl
  | some b=>rw[h1,h2] at this;cases this
 | some a=>cases h2:(Yl G)[i]? with
  | none=>rw[h1,h2] at this;cases this
  | some b=>rw[h1,h2] at this;injection this
theorem Lz {S T:Sf} (h:eqS false S T=true):S.len=T.len:=by
 by_cases e:S.len=T.len
 ·exact e
 rw[Tj e] at h;cases h
theorem xql {S T:Sf} (h:eqS false S T=true):∀ n,Qz S n=Qz T n:=by
 induction S generalizing T with
 | nil=>cases T with
  | nil=>intro n;rfl
  | cons=>cases h
 | cons k ln nm xs th el r ih1 ih2 ih3 =>
  cases T with
  | nil=>cases h
  | cons k2 ln2 nm2 xs2 th2 el2 r2 =>
   intro n
   simp only[eqS,Bool.and_eq_true,beq_iff_eq] at h
   obtain⟨⟨rfl,rfl,_,h4,h5,h6⟩,h7⟩:=h
   rw[Qd,Qd,ih3 h7 n]
   congr 2
   unfold Ys
   rw[Tq h4 0,Tq h4 1,ih1 h5 (n+1),ih2 h6 (n+1),Lz h6]
theorem xxc {S T:Sf} (h:eqS false S T=true) (hT:T.pr):S.pr/\S.nst=T.nst:=by
 induction S generalizing T with
 | nil=>cases T with
  | nil=>exact⟨trivial,rfl⟩
  | cons=>cases h
 | cons k ln nm xs th el r ih1 ih2 ih3 =>
  cases T with
  | nil=>cases h
  | cons k2 ln2 nm2 xs2 th2 el2 r2 =>
   simp only[eqS,Bool.and_eq_true,beq_iff_eq] at h
   obtain⟨⟨rfl,rfl,_,h4,h5,h6⟩,h7⟩:=h
   obtain⟨t1,t2,t3,t4,t5⟩:=hT
   have a1:=ih1 h5 t3
   have a2:=ih2 h6 t4
   have a3:=ih3 h7 t5
   refine⟨⟨?_,xxf h4 t2,a1.1,a2.1,a3.1⟩,by simp only[Sf.nst];rw[a1.2,a2.2,a3.2]⟩
   have hl:=Mf h4
   unfold prS at t1 ⊢
   rw[hl]
   rcases t1 with t|t|t|⟨t,t',te⟩
   ·exact .inl t
   ·exact .inr (.inl t)
   ·exact .inr (.inr (.inl t))
   refine .inr (.inr (.inr ⟨t,t',?_⟩))
   subst te
   cases el with
   | nil=>rfl
   | cons=>cases h6
theorem Lk {fs hs:List Fu} (h:Jq false fs hs=true):fs.flatMap Ur=hs.flatMap Ur:=by
 induction fs generalizing hs with
 | nil=>cases hs with
  | nil=>rfl
  | cons=>cases h
 | cons f fs ih =>
  cases hs with
  | nil=>cases h
  | cons g hs =>
   simp only[Jq,Bool.and_eq_true] at h
   obtain⟨h1,h2⟩:=h
   simp only[Ef,Bool.and_eq_true,beq_iff_eq] at h1
   obtain⟨e1,_,e2,e3⟩:=h1
   rw[List.flatMap_cons,List.flatMap_cons,ih h2]
   congr 1
   unfold Ur Gm
   rw[e1,e2,xql e3 1]
theorem xqr {fs hs:List Fu} (h:Jq false fs hs=true) (hh:∀ f∈hs,f.S.pr/\f.S.nst<=90/\f.ps.length<=100000):∀ f∈fs,f.S.pr/\f.S.nst<=90/\f.ps.length<=100000:=by
 induction fs generalizing hs with
 | nil=>intro f hf;cases hf
 | cons f fs ih =>
  cases hs with
  | nil=>cases h
  | cons g hs =>
   simp only[Jq,Bool.and_eq_true] at h
   obtain⟨h1,h2⟩:=h
   simp only[Ef,Bool.and_eq_true,beq_iff_eq] at h1
   obtain⟨e1,_,e2,e3⟩:=h1
   intro x hx
   rcases List.mem_cons.1 hx with rfl|hx
   ·obtain⟨k1,k2,k3⟩:=hh g (by simp)
    obtain⟨q1,q2⟩:=xxc e3 k1
    exact⟨q1,by omega,by rw[e2];exact k3⟩
   exact ih h2 (λ y hy=>hh y (by simp[hy])) x hx
theorem Qk.fus {w:World} {P:Nat->Prop} {fs:List Fr} {Fs:List Fn} (h:Qk w P fs Fs) (hl:∀ F∈Fs,True):Vd w P (Fs.map fnU) (frc fs):=by
 induction fs generalizing Fs with
 | nil=>cases Fs with
  | nil=>rfl
  | cons F Fs=>exact absurd h id
 | cons f fs ih =>
  cases Fs with
  | nil=>exact absurd h id
  | cons F Fs =>
   obtain⟨⟨h1,h2,h3,h4,h5,h6,h7,h8,h9⟩,h10⟩:=h
   refine⟨.slice f.pa f.pn f.pc,.slice f.ba f.bn f.bc,frc fs,?_,⟨f.pa,f.pc,by rw[h2];rfl,by show F.ps.length<=_;rw[<- h2];exact h3,h4,h6⟩,h8,ih h10 (λ _ _=>trivial)⟩
   unfold frc
   rw[List.flatMap_cons,h1]
   rfl
theorem Jk.so {w:World} {gs:List (Bt×Int)} {fs:List Fr} {Fs:List Fn} {aa ab:Option Addr} {ca cb:Nat} (h:Jk w gs fs Fs aa ca ab cb):Jy w (λ _=>True) gs (Fs.map fnU) (.slice aa gs.length ca) (.slice ab fs.length cb):=by
 have hl:=h.fns.len
 exact⟨aa,ca,ab,cb,frc fs,rfl,by rw[List.length_map,hl],h.gcap.1,h.gcap.2,by rw[List.length_map,<- hl];exact h.fcap.1,h.fcap.2,h.gat,h.fat,h.fns.fus (λ _ _=>trivial)⟩
theorem Jk.fmtU {w:World} {gs:List (Bt×Int)} {fs:List Fr} {Fs:List Fn} {aa ab:Option Addr} {ca cb:Nat} (h:Jk w gs fs Fs aa ca ab cb):Go.Proofs.YtldgghnjminhiaaGreatDoor.fmtU gs (Fs.map fnU)=An gs Fs:=by
 unfold Go.Proofs.YtldgghnjminhiaaGreatDoor.fmtU An
 rw[List.flatMap_map]
 rfl
theorem Jk.prs {w:World} {gs:List (Bt×Int)} {fs:List Fr} {Fs:List Fn} {aa ab:Option Addr} {ca cb:Nat} (h:Jk w gs fs Fs aa ca ab cb):∀ f∈Fs.map fnU,f.S.pr/\f.S.nst<=90/\f.ps.length<=100000:=by
 have key:∀ (fs:List Fr) (Fs:List Fn),Qk w (λ _=>True) fs Fs->(∀ f∈fs,okN f.nm/\f.pn<=2)->∀ F∈Fs,F.bd.wf/\F.bd.nst<=3/\F.ps.length<=2:=by
  intro fs
  induction fs with
  | nil=>intro Fs h _ F hF;cases Fs with
   | nil=>cases hF
   | cons=>exact absurd h id
  | cons f fs ih=>intro Fs h hk F hF;cases Fs with
   | nil=>cases hF
   | cons G Fs =>
    rcases List.mem_cons.1 hF with rfl|hF
    ·obtain⟨_,h2,_,_,_,_,_,_,h9,_,h11,_⟩:=h.1
     exact⟨h9,h11,by rw[<- h2];exact(hk f (by simp)).2⟩
    exact ih Fs h.2 (λ x hx=>hk x (by simp[hx])) F hF
 intro f hf
 obtain⟨F,hF,rfl⟩:=List.mem_map.1 hf
 obtain⟨k1,k2,k3⟩:=key fs Fs h.fns h.fok F hF
 exact⟨k1.pr,by show F.bd.nst<=90;omega,by show F.ps.length<=100000;omega⟩
theorem xxw {p:UInt8->Bool} {l:Bt} {c:UInt8} (h:c∈l.takeWhile p):p c=true:=by
 induction l with
 | nil=>cases h
 | cons b l ih =>
  rw[List.takeWhile_cons] at h
  split at h
  ·rename_i hb
   rcases List.mem_cons.1 h with rfl|h
   ·exact hb
   exact ih h
  cases h
theorem Cp {x:Tk} (h:Uf x) (hk:x.k=1):okM x.t:=by
 obtain⟨ln0,b,l,hst⟩:=h
 obtain⟨_,_,_,_,h5,_⟩:=Uy hst
 unfold nxI at h5
 dsimp only at h5
 split at h5
 ·rename_i hb
  injection h5 with e1 e2
  injection e2 with _ e2
  injection e2 with e2 e3
  have hr:run in8 (b::l)=b::run in8 l:=by
   unfold run
   rw[List.takeWhile_cons,if_pos (Rk hb)]
  have hw:isW (run in8 (b::l))=false:=by
   cases hw:isW (run in8 (b::l))
   ·rfl
   rw[hw] at e1;simp at e1;omega
  rw[<- e2]
  refine⟨b,run in8 l,hr,hb,λ c hc=>?_,hw,by simpa using e3⟩
  unfold run at hc
  exact xxw hc
 split at h5
 ·split at h5<;>(injection h5 with e _;omega)
 split at h5<;>(injection h5 with e _;omega)
theorem xjq {x:Tk} (h:Uf x) (hk:x.k=2):0<=x.v/\x.v<=9223372036854775807:=by
 obtain⟨ln0,b,l,hst⟩:=h
 obtain⟨_,_,_,_,h5,_⟩:=Uy hst
 unfold nxI at h5
 dsimp only at h5
 split at h5
 ·injection h5 with e _
  split at e<;>omega
 split at h5
 ·rename_i hd
  have hzj:run dg8 (b::l)=b::run dg8 l:=by
   unfold run
   rw[List.takeWhile_cons,if_pos hd]
  split at h5
  ·rename_i v hv
   injection h5 with e1 e2
   injection e2 with e2 _
   rw[<- e2]
   have hb:=Lib.atoiAll_bounds hv
   refine⟨?_,hb.2⟩
   rw[hzj] at hv
   unfold dg8 at hd
   simp only[Bool.and_eq_true,decide_eq_true_eq] at hd
   rw[Lib.atoiAll_plain b _ (by omega) (by omega)] at hv
   cases hp:Lib.parseMag (b::run dg8 l) with
   | ok u =>
    rw[hp] at hv
    simp only[Lib.signless] at hv
    split at hv
    ·cases hv
    injection hv with hv;omega
   | _=>rw[hp] at hv;cases hv
  injection h5 with e1 e2
  injection e2 with e2 _
  rw[<- e2]
  omega
 split at h5<;>(injection h5 with e _;omega)
def Gt (ts:List Tk):Prop:=∀ x∈ts,Uf x\/x.k=0
theorem Gt.tail {ts:List Tk} (h:Gt ts):Gt ts.tail:=λ x hx=>h x (List.mem_of_mem_tail hx)
def Fo.ct:Fo->Nat
 | .nil=>0
 | .cons h ar r=>h.nm.length+60+ar.ct+r.ct
theorem Gt.name {ts:List Tk} (h:Gt ts) (hk:kOf ts=1):okM (tOf ts):=by
 cases ts with
 | nil=>cases hk
 | cons x r =>
  rcases h x (by simp) with h1|h1
  ·exact Cp h1 hk
  exact absurd (h1.symm.trans hk) (by decide)
theorem Gt.num {ts:List Tk} (h:Gt ts) (hk:kOf ts=2):0<=vOf ts/\vOf ts<=9223372036854775807:=by
 cases ts with
 | nil=>cases hk
 | cons x r =>
  rcases h x (by simp) with h1|h1
  ·exact xjq h1 hk
  exact absurd (h1.symm.trans hk) (by decide)
def Lv.ok:Lv->Prop
 | .exL x|.anL x|.suL x|.teL x=>x.len=1/\x.wg
 | .caL p x=>x.len=1/\x.wg/\(p=true->okM (Hm x).nm)
 | .ag _ F=>F.wg
 | _=>True
def Lv.ct:Lv->Nat
 | .exL x|.anL x|.suL x|.teL x|.caL _ x=>x.ct
 | .ag _ F=>F.ct
 | _=>0
def Lv.one:Lv->Bool
 | .ag _ _=>false
 | _=>true
theorem okG.k13 {h:Hd} {ar:Fo} (k:okG h ar) (h13:h.k=13):okM h.nm:=by
 rcases k with⟨_,_,k⟩|⟨_,k,_⟩|⟨_,_,k⟩
 ·rcases k with k|k|k|k|k|k|k
  ·exact k.2.1
  all_goals exact absurd k.1 (by omega)
 ·omega
 rcases k with k|k<;>exact absurd k.1 (by omega)
theorem okG.pr {h:Hd} {ar:Fo} (k:okG h ar):prH h ar:=by
 rcases k with⟨_,_,k⟩|⟨_,k,_,k0,k1,_⟩|⟨_,_,k⟩
 ·rcases k with⟨k,_⟩|⟨k,_⟩|⟨k,_⟩|⟨k,_,hl⟩|⟨k,_,hl⟩|⟨k,_⟩|⟨k,_,g,bs,r0,rfl⟩
  ·exact .inl (.inl k)
  ·exact .inr (.inl k)
  ·exact .inr (.inr (.inl k))
  ·exact .inr (.inr (.inr (.inr (.inl ⟨k,hl⟩))))
  ·rcases k with k|k
   ·exact .inr (.inr (.inr (.inr (.inr (.inr (.inr (.inl ⟨k,hl⟩)))))))
   exact .inr (.inr (.inr (.inr (.inr (.inr (.inr (.inr (.inl ⟨k,hl⟩))))))))
  ·exact .inr (.inr (.inr (.inr (.inr (.inr (.inr (.inr (.inr (.inl k)))))))))
  exact .inr (.inr (.inr (.inr (.inr (.inr (.inr (.inr (.inr (.inr ⟨k,by simp[Fo.len]⟩)))))))))
 ·exact .inr (.inr (.inr (.inl ⟨k,k0,k1⟩)))
 rcases k with⟨k,o1,o2,hl⟩|⟨k,o1,o2,hl⟩
 ·exact .inr (.inr (.inr (.inr (.inr (.inl ⟨k,by omega,by omega,hl⟩)))))
 exact .inr (.inr (.inr (.inr (.inr (.inr (.inl ⟨k,by omega,by omega,hl⟩))))))
theorem Fo.len_ct (F:Fo):60*F.len<=F.ct:=by
 induction F with
 | nil=>simp[Fo.len,Fo.ct]
 | cons h ar r _ ih=>simp only[Fo.len,Fo.ct];omega
theorem Fo.wg.pr {F:Fo} (h:F.wg) (hc:F.ct<=1000000):F.pr:=by
 induction F with
 | nil=>trivial
 | cons hd ar r ih1 ih2 =>
  simp only[Fo.ct] at hc
  have:=ar.len_ct
  exact⟨h.1.pr,by omega,ih1 h.2.1 (by omega),ih2 h.2.2 (by omega)⟩
theorem Ay (n:Nat) (w:World):Calls Tryz.prog 131 #[.int .u8 (n:Int)] w λ e w'=>e=.returned (.bool (decide (97<=n/\n<=122)||decide (65<=n/\n<=90)))/\w'=w:=by
 by_cases h1:97<=n
 ·by_cases h2:n<=122
  ·have d1:decide ((97:Int)<=(n:Int))=true:=by rw[decide_eq_true_iff];omega
   have d2:decide ((n:Int)<=122)=true:=by rw[decide_eq_true_iff];omega
   have HE:Xq ((decide (97<=n/\n<=122)||decide (65<=n/\n<=90))=true):=Xj (by simp[h1,h2])
   clear h1 h2
   go_enter Tryz.func131,Tryz.ntmps131
   go_wp2
   go_ret
   exact⟨by rw[HE.o];rfl,rfl⟩
  have d1:decide ((97:Int)<=(n:Int))=true:=by rw[decide_eq_true_iff];omega
  have d2:decide ((n:Int)<=122)=false:=by rw[decide_eq_false_iff_not];omega
  have d3:decide ((65:Int)<=(n:Int))=true:=by rw[decide_eq_true_iff];omega
  have d4:decide ((n:Int)<=90)=false:=by rw[decide_eq_false_iff_not];omega
  have HE:Xq ((decide (97<=n/\n<=122)||decide (65<=n/\n<=90))=false):=Xj (by simp;omega)
  clear h1 h2
  go_enter Tryz.func131,Tryz.ntmps131
  go_wp2
  go_ret
  exact⟨by rw[HE.o];rfl,rfl⟩
 have d1:decide ((97:Int)<=(n:Int))=false:=by rw[decide_eq_false_iff_not];omega
 by_cases h3:65<=n
 ·have d3:decide ((65:Int)<=(n:Int))=true:=by rw[decide_eq_true_iff];omega
  have HE:Xq ((decide (97<=n/\n<=122)||decide (65<=n/\n<=90))=decide ((n:Int)<=90)):=Xj (by
   have:decide ((n:Int)<=90)=decide (n<=90):=by rw[decide_eq_decide];omega
   rw[this];simp[h1,h3])
  clear h1 h3
  go_enter Tryz.func131,Tryz.ntmps131
  go_wp2
  go_ret
  exact⟨by rw[HE.o];simp,rfl⟩
 have d3:decide ((65:Int)<=(n:Int))=false:=by rw[decide_eq_false_iff_not];omega
 have HE:Xq ((decide (97<=n/\n<=122)||decide (65<=n/\n<=90))=false):=Xj (by simp[h1,h3])
 clear h1 h3
 go_enter Tryz.func131,Tryz.ntmps131
 go_wp2
 go_ret
 exact⟨by rw[HE.o];rfl,rfl⟩
theorem Qg (b:UInt8) (w:World):Calls Tryz.prog 131 #[.int .u8 (b.toNat:Int)] w λ e w'=>e=.returned (.bool (lt8 b))/\w'=w:=Ay b.toNat w
theorem Fm (n:Nat) (w:World):Calls Tryz.prog 132 #[.int .u8 (n:Int)] w λ e w'=>e=.returned (.bool (decide (48<=n/\n<=57)))/\w'=w:=by
 by_cases h1:48<=n
 ·have d1:decide ((48:Int)<=(n:Int))=true:=by rw[decide_eq_true_iff];omega
  have HE:Xq (decide (48<=n/\n<=57)=decide ((n:Int)<=57)):=Xj (by rw[decide_eq_decide];omega)
  clear h1
  go_enter Tryz.func132,Tryz.ntmps132
  go_wp2
  go_ret
  exact⟨by rw[HE.o];simp,rfl⟩
 have d1:decide ((48:Int)<=(n:Int))=false:=by rw[decide_eq_false_iff_not];omega
 have HE:Xq (decide (48<=n/\n<=57)=false):=Xj (by simp[h1])
 clear h1
 go_enter Tryz.func132,Tryz.ntmps132
 go_wp2
 go_ret
 exact⟨by rw[HE.o];rfl,rfl⟩
theorem Up (b:UInt8) (w:World):Calls Tryz.prog 132 #[.int .u8 (b.toNat:Int)] w λ e w'=>e=.returned (.bool (dg8 b))/\w'=w:=Fm b.toNat w
theorem Ip (s:Bt) (ls:List Bt) (n cap:Nat) (a:Option Addr) (hn:n=ls.length) (hN:n<=maxLen) (w:World) (H:Yd w a (Qw ls)) :
  Calls Tryz.prog 163 #[.string (st s),.slice a n cap] w λ e w'=>e=.returned (.bool (ls.contains s))/\w'=w:=by
 have hN':n<=9223372036854775807:=hN
 have HN:=Xj hn
 clear hn hN
 go_enter Tryz.func163,Tryz.ntmps163
 go_wp2_with fail
 go_loopw [5] (λ v5 wr=>∃ k:Nat,k<=n/\v5=.int .i64 k/\wr=w/\Xq (∀ j,j<k->ls.getD j []≠s)) (λ v _=>n-(intOf v).toNat)
 case atStart=>exact⟨0,by omega,rfl,rfl,Xj (λ j hj=>absurd hj (by omega))⟩
 obtain⟨k,hk,rfl,rfl,HA⟩:=hrel
 by_cases hlt:k<n
 ·have hkl:k<ls.length:=HN.o▸hlt
  obtain⟨b,off,rfl,hb,hc⟩:=H.str k hkl
  have hc1:=hc k hkl
  have HK:=Xj hkl
  clear hkl
  by_cases hz:ls.getD k []=s
  ·have HE:=Xj (Md HK.o hz)
   rw[hz] at hc1
   clear hz hc
   go_wp2_with fail
   go_ret
   exact⟨by rw[HE.o];rfl,rfl⟩
  have HZ:=Xj hz
  obtain⟨x,hx⟩:∃ x,ls.getD k []=x:=⟨_,rfl⟩
  have HX:=Xj hx
  rw[hx] at hc1 hz
  have hne:(x==s)=false:=by
   rw[beq_eq_false_iff_ne];exact hz
  have HM:Xq (∀ j,j<k+1->ls.getD j []≠s):=Xj (λ j hj=>by
   by_cases e:j=k
   ·subst e;exact HZ.o
   exact HA.o j (by omega))
  clear hx hz hc
  go_wp2_with fail
  go_roundw
  case rel=>exact⟨k+1,by omega,by go_num,by first|rfl|trivial,HM⟩
  simp[intOf];omega
 obtain rfl:k=n:=by omega
 have HE:=Xj (Hf (ls:=ls) (s:=s) (λ j hj=>HA.o j (by rw[HN.o];exact hj)))
 go_wp2_with fail
 go_ret
 exact⟨by rw[HE.o];rfl,rfl⟩
theorem Dw (s:Bt) (w:World):Calls Tryz.prog 133 #[.string (st s)] w λ e w'=>e=.returned (.bool (isW s))/\Below w.heap.size w w':=by
 go_enter Tryz.func133,Tryz.ntmps133
 go_wp2_with fail
 refine(Ip s wordsL 10 10 _ rfl (by decide) _ (Yd.fresh w (Qw wordsL) _)).mono ?_
 rintro e w1 ⟨rfl,rfl⟩
 rw[show wordsL.contains s=isW s from rfl]
 go_wp2_with fail
 go_ret
 exact⟨rfl,Xw _ _⟩
theorem Bn (s:Bt) (w:World):Calls Tryz.prog 136 #[.string (st s)] w λ e w'=>e=.returned (.bool (isS s))/\Below w.heap.size w w':=by
 go_enter Tryz.func136,Tryz.ntmps136
 go_wp2_with fail
 refine(Ip s signsL 22 22 _ rfl (by decide) _ (Yd.fresh w (Qw signsL) _)).mono ?_
 rintro e w1 ⟨rfl,rfl⟩
 rw[show signsL.contains s=isS s from rfl]
 go_wp2_with fail
 go_ret
 exact⟨rfl,Xw _ _⟩
def rnV (l:Bt):Int:=if Qh l<9223372036854775808 then (Qh l:Int) else 0
def rnO (l:Bt):Bool:=decide (Qh l<9223372036854775808)
theorem Rx (l:Bt) (hd:Gs l) (hl:l.length<=281474976710656) (w:World) :
  Calls Tryz.prog 135 #[.string (st l)] w λ e w'=>e=.returned (.tuple #[.int .i64 (rnV l),.bool (rnO l)])/\w'=w:=by
 have HD:=Xj hd
 have hs:(st l).size=l.length:=rfl
 obtain⟨s,hS⟩:∃ s,s=st l:=⟨_,rfl⟩
 obtain⟨m,hm⟩:∃ m,m=l.length:=⟨_,rfl⟩
 have hsz:s.size=m:=by rw[hS,hm];rfl
 rw[<- hS]
 have HS:=Xj hS
 have HM:=Xj hm
 rw[<- hm] at hl
 clear hs hd hS hm
 have HSZ:=Xj hsz
 have hsl:s.size<=281474976710656:=by omega
 clear hsz
 go_enter Tryz.func135,Tryz.ntmps135
 go_wp2_with fail
 go_loopw [4,5] (λ v4 v5 wr=>∃ k n:Nat,k<=s.size/\v5=.int .i64 k/\v4=.int .i64 n/\wr=w/\n<9223372036854775808/\Xq (n=Qh (l.take k))) (λ v4 v5 _=>s.size-(intOf v5).toNat)
 case atStart=>exact⟨0,0,by omega,rfl,rfl,rfl,by omega,Xj rfl⟩
 obtain⟨k,n,hk,rfl,rfl,rfl,hn,HN⟩:=hrel
 by_cases hlt:k<s.size
 ·obtain⟨b,hb⟩:∃ b,s[k]=b:=⟨_,rfl⟩
  have hkb:l[k]?=some b:=by
   have:=Qr s k hlt
   rw[hb,HS.o] at this
   simpa using this
  have hbd:=HD.o b (List.mem_of_getElem? hkb)
  have HKB:=Xj hkb
  clear hkb
  have hu:IntKind.u8.wrap ((b.toNat:Int)-48)=(b.toNat:Int)-48:=by unfold IntKind.wrap;simp[IntKind.signed,IntKind.bits];omega
  have HT:Xq (Qh (l.take (k+1))=10*n+(b.toNat-48)):=Xj (by rw[Gd l k b HKB.o,HN.o])
  have HLE:=Xj (Ds l (k+1))
  by_cases hov:(9223372036854775807-((b.toNat:Int)-48))/10<(n:Int)
  ·have d1:decide ((9223372036854775807-((b.toNat:Int)-48))/10<(n:Int))=true:=by simpa using hov
   have HB:Xq (rnV l=0/\rnO l=false):=Xj (by have h1:=HT.o;have h2:=HLE.o;have h3:¬ Qh l<9223372036854775808:=(by omega);exact⟨if_neg h3,decide_eq_false h3⟩)
   clear hov
   go_wp2_with fail
   go_ret2
   exact⟨by rw[HB.o.1,HB.o.2];rfl,rfl⟩
  have d1:decide ((9223372036854775807-((b.toNat:Int)-48))/10<(n:Int))=false:=by simpa using hov
  have hn2:10*n+(b.toNat-48)<9223372036854775808:=by omega
  have hn3:10*(n:Int)+((b.toNat:Int)-48)<=9223372036854775807:=by omega
  have hn4:10*(n:Int)<=9223372036854775807:=by omega
  have HC:Xq (10*(n:Int)+((b.toNat:Int)-48)=((10*n+(b.toNat-48):Nat):Int)):=Xj (by omega)
  clear hov
  go_wp2_with fail
  go_roundw
  case rel=>exact⟨k+1,10*n+(b.toNat-48),by omega,by go_num,by rw[HC.o],by first|rfl|trivial,hn2,Xj HT.o.symm⟩
  simp[intOf];omega
 obtain rfl:k=s.size:=by omega
 have HE:Xq (rnV l=(n:Int)/\rnO l=true):=Xj (by
  have h2:s.size=l.length:=by rw[HS.o];rfl
  have h3:=HN.o;rw[h2,List.take_length] at h3;rw[h3] at hn ⊢;exact⟨if_pos hn,decide_eq_true hn⟩)
 go_wp2_with fail
 go_ret2
 exact⟨by rw[HE.o.1,HE.o.2];rfl,rfl⟩
theorem Om (l:Bt) (b0:UInt8) (r:Bt) (hl0:l=b0::r) (h0:lt8 b0=true) (hw:isW l=false) (hqu:∀ c∈l,in8 c=true) (hl:l.length<=281474976710656) (w:World) :
  Calls Tryz.prog 134 #[.string (st l)] w λ e w'=>e=.returned (.bool (decide (l.length<=32)))/\Below w.heap.size w w':=by
 have hdk:=Xj hqu
 have HW:=Xj hw
 have H0:=Xj h0
 have HCW:=Xj (λ (v:World)=>Dw l v)
 have hs:(st l).size=l.length:=rfl
 obtain⟨s,hS⟩:∃ s,s=st l:=⟨_,rfl⟩
 have hsz:s.size=l.length:=by rw[hS];rfl
 rw[<- hsz] at hl ⊢
 have hvy:0<s.size:=by rw[hsz,hl0];simp
 have hb0:s[0]=b0:=by
  have h1:=Qr s 0 hvy
  have h2:s.data.toList=b0::r:=by rw[hS,<- hl0]
  rw[h2] at h1
  simpa using h1.symm
 rw[<- hS] at HCW ⊢
 have HS:=Xj hS
 clear hS hs hsz hqu hw h0
 clear hl0
 have hz:((s.size:Int)==0)=false:=by rw[beq_eq_false_iff_ne];omega
 have hz2:¬ s=ByteArray.empty:=by intro e;rw[e] at hvy;exact absurd hvy (by decide)
 by_cases HJ:s.size<=32
 ·have d1:decide (s.size<=32)=true:=by simpa using HJ
  have d2:decide (32<s.size)=false:=by simp;omega
  have d3:decide ((32:Int)<(s.size:Int))=false:=by simp;omega
  have HR:Xq (decide (s.size<=32)=true):=Xj d1
  rw[d1]
  clear d1
  go_enter Tryz.func134,Tryz.ntmps134
  go_wp2_with fail
  try rw[hb0]
  refine(Qg b0 _).mono ?_
  rintro e w1 ⟨rfl,rfl⟩
  rw[H0.o]
  go_wp2_with fail
  refine(HCW.o _).mono ?_
  rintro e w1 ⟨rfl,hb1⟩
  rw[HW.o]
  go_wp2_with fail
  go_loopw [3] (λ v3 wr=>∃ k:Nat,k<=s.size/\v3=.int .i64 k/\wr=w1) (λ v3 _=>s.size-(intOf v3).toNat)
  case atStart=>exact⟨0,by omega,rfl,rfl⟩
  obtain⟨k,hk,rfl,rfl⟩:=hrel
  by_cases hlt:k<s.size
  ·obtain⟨b,hb⟩:∃ b,s[k]=b:=⟨_,rfl⟩
   have hin:in8 b=true:=by
    have h1:=Qr s k hlt
    rw[hb,HS.o] at h1
    exact hdk.o b (List.mem_of_getElem? h1)
   go_wp2_with fail
   try rw[hb]
   refine(Qg b _).mono ?_
   rintro e w2 ⟨rfl,rfl⟩
   cases h1:lt8 b
   ·go_wp2_with fail
    try rw[hb]
    refine(Up b _).mono ?_
    rintro e w2 ⟨rfl,rfl⟩
    cases h2:dg8 b
    ·have h95:b.toNat=95:=by
      unfold in8 at hin;rw[h1,h2] at hin;simpa using hin
     have hd:((b.toNat:Int) != 95)=false:=by rw[h95];rfl
     go_wp2_with fail
     go_roundw
     case rel=>exact⟨k+1,by omega,by go_num,by first|rfl|trivial⟩
     simp[intOf];omega
    go_wp2_with fail
    go_roundw
    case rel=>exact⟨k+1,by omega,by go_num,by first|rfl|trivial⟩
    simp[intOf];omega
   go_wp2_with fail
   go_roundw
   case rel=>exact⟨k+1,by omega,by go_num,by first|rfl|trivial⟩
   simp[intOf];omega
  obtain rfl:k=s.size:=by omega
  go_wp2_with fail
  go_ret
  exact⟨rfl,hb1⟩
 have d1:decide (s.size<=32)=false:=by simpa using HJ
 have d2:decide (32<s.size)=true:=by simp;omega
 have d3:decide ((32:Int)<(s.size:Int))=true:=by simp;omega
 rw[d1]
 clear d1
 go_enter Tryz.func134,Tryz.ntmps134
 go_wp2_with fail
 go_ret
 exact⟨rfl,Below.refl _ _⟩
def Nk (l:Bt) (i ln:Int) (w:World) (e:Ending) (w':World):Prop :=
 Below w.heap.size w w'/\∃ (k x v:Int) (t:Bt) (m:Int) (ok:Bool),e=.returned (.tuple #[tkv k x v t,.int .i64 m,.bool ok]) /\
  ((ok=true/\x=ln/\m=i+t.length/\nxI l=(k,v,t,true))\/(ok=false/\(nxI l).2.2.2=false))
theorem xjg {p:UInt8->Bool} {l:Bt} {i k:Nat} (hik:i<=k) (hk:k<=l.length) (h:∀ j,i<=j->j<k->∃ b,l[j]?=some b/\p b=true) (he:∀ b,l[k]?=some b->p b=false):run p (l.drop i)=(l.take k).drop i:=by
 rw[List.drop_take]
 have hj:∀ j,j<k-i->∃ b,(l.drop i)[j]?=some b/\p b=true:=λ j hj=>by
  rw[List.getElem?_drop];exact h (i+j) (by omega) (by omega)
 by_cases hkl:k<l.length
 ·refine Dc hj (l[k]) ?_ (he _ (List.getElem?_eq_getElem hkl))
  rw[List.getElem?_drop,show i+(k-i)=k by omega,List.getElem?_eq_getElem hkl]
 have e:k-i=(l.drop i).length:=by simp;omega
 rw[e,List.take_length]
 exact El (λ j hj2=>hj j (by rw[e];exact hj2))
theorem Jx {p:UInt8->Bool} {l:Bt} {i k:Nat} (hik:i<=k) (hk:k<=l.length) (h:∀ j,i<=j->j<k->∃ b,l[j]?=some b/\p b=true) (he:∀ b,l[k]?=some b->p b=false):i+(run p (l.drop i)).length=k:=by
 rw[xjg hik hk h he];simp;omega
theorem Wm {p:UInt8->Bool} {l:Bt} {i k:Nat} {c:UInt8} (h:∀ j,i<=j->j<k->∃ b,l[j]?=some b/\p b=true) (hc:l[k]?=some c) (hp:p c=true):∀ j,i<=j->j<k+1->∃ b,l[j]?=some b/\p b=true:=λ j h1 h2=>by
 by_cases e:j=k
 ·subst e;exact⟨c,hc,hp⟩
 exact h j h1 (by omega)
theorem xqq {t:Bt} (h:isW t=true):t.length<=32:=by
 unfold isW at h
 rw[List.contains_iff_mem] at h
 exact(show ∀ x∈wordsL,x.length<=32 by decide) t h
theorem Fy {p q:UInt8->Bool} (h:∀ b,p b=true->q b=true) (l:Bt):(run p l).length<=(run q l).length:=by
 induction l with
 | nil=>exact Nat.le_refl _
 | cons x l ih =>
  unfold run at ih ⊢
  rw[List.takeWhile_cons,List.takeWhile_cons]
  by_cases hx:p x=true
  ·rw[if_pos hx,if_pos (h x hx)];simp;exact ih
  rw[if_neg hx];simp
theorem Nl (l:Bt):Gs (run dg8 l):=λ c hc=>by
 have:=List.all_eq_true.1 (List.all_takeWhile (p:=dg8) (l:=l)) c hc
 unfold dg8 at this
 simpa using this
theorem xxv {l:Bt} {b:UInt8} {rest:Bt} (hl:l=b::rest) (h1:lt8 b=false) (h2:dg8 b=true) (t:Bt) (ht:t=run dg8 l) (bad:Bool)
  (hqs:bad=(decide (t.length<(run in8 l).length)||(decide (b.toNat=48)&&decide (1<t.length)))) :
  ((rnO t && !bad)=true/\nxI l=(2,rnV t,t,true))\/((rnO t && !bad)=false/\(nxI l).2.2.2=false):=by
 have hnx:nxI l=(match Lib.atoiAll t with
   | .ok v=>(2,v,t,(Lib.itoa v==t)&&decide ((run in8 l).length=t.length))
   | _=>(2,0,t,false)):=by
  rw[ht,hl];show (if lt8 b then _ else _)=_;rw[h1];simp only[Bool.false_eq_true,if_false];rw[h2];simp only[if_true];rfl
 have hD:Gs t:=ht▸Nl l
 obtain⟨r,hr⟩:∃ r,t=b::r:=by
  rw[ht,hl];unfold run;rw[List.takeWhile_cons,h2,if_pos rfl];exact⟨_,rfl⟩
 have hle:t.length<=(run in8 l).length:=by
  rw[ht];exact Fy (λ c hc=>by unfold in8;rw[hc];simp) l
 have h48:48<=b.toNat:=(hD b (by rw[hr];simp)).1
 rw[hnx,Mt t hD (by rw[hr];simp)]
 by_cases hn:Qh t<9223372036854775808
 ·rw[if_pos hn,show rnO t=true from decide_eq_true hn,show rnV t=(Qh t:Int) from if_pos hn,Bool.true_and]
  dsimp only
  have hi:(Lib.itoa (Qh t:Int)==t)=decide (49<=b.toNat\/r=[]):=by
   rw[hr] at hD ⊢;exact Iu b r hD
  have hz:((Lib.itoa (Qh t:Int)==t)&&decide ((run in8 l).length=t.length)) = !bad:=by
   rw[hi,hqs]
   have hr1:(1<t.length)↔¬ r=[]:=by rw[hr];cases r<;>simp
   rw[Bool.eq_iff_iff]
   simp only[Bool.and_eq_true,decide_eq_true_eq,Bool.not_eq_true',Bool.or_eq_false_iff,Bool.and_eq_false_iff,decide_eq_false_iff_not,hr1]
   constructor
   ·rintro⟨ha,hb⟩
    refine⟨by omega,?_⟩
    rcases ha with ha|ha
    ·exact .inl (by omega)
    exact .inr (λ h=>h ha)
   rintro⟨ha,hb⟩
   refine⟨?_,by omega⟩
   rcases hb with hb|hb
   ·exact .inl (by omega)
   exact .inr (Classical.not_not.1 hb)
  rw[hz]
  cases bad
  ·exact .inl ⟨rfl,rfl⟩
  exact .inr ⟨rfl,rfl⟩
 rw[if_neg hn,show rnO t=false from decide_eq_false hn]
 exact .inr ⟨rfl,rfl⟩
theorem Nh {p q:UInt8->Bool} (hpq:∀ b,p b=true->q b=true) (L:Bt) (c:UInt8) (hc:L[(run p L).length]?=some c):decide ((run p L).length<(run q L).length)=q c:=by
 induction L with
 | nil=>simp at hc
 | cons x L ih =>
  unfold run at ih hc ⊢
  rw[List.takeWhile_cons] at hc ⊢
  by_cases hx:p x=true
  ·rw[if_pos hx] at hc ⊢
   rw[List.takeWhile_cons,if_pos (hpq x hx)]
   have:=ih (by simpa using hc)
   rw[<- this]
   simp
  rw[if_neg hx] at hc ⊢
  have:x=c:=by simpa using hc
  subst this
  rw[List.takeWhile_cons]
  cases hq:q x<;>simp
theorem Gw (w:World) (ln:Int):∀ W,W=((w.alloc (.cells #[.int .i64 0,.int .i64 0,.int .i64 0,.string { data := #[] }] 103)).alloc (.cells #[.int .i64 0,.int .i64 ln,.int .i64 0,.string { data := #[] }] 103))->Below w.heap.size w W/\W.heap[w.heap.size]?=some (.cells #[.int .i64 0,.int .i64 0,.int .i64 0,.string { data := #[] }] 103 (0,0))/\W.heap[w.heap.size+1]?=some (.cells #[.int .i64 0,.int .i64 ln,.int .i64 0,.string { data := #[] }] 103 (0,0)):=λ W hW=>by
 subst hW
 refine⟨((Below.refl _ _).alloc (Nat.le_refl _) _).alloc (by simp) _,?_,?_⟩
 ·rw[Below.heap_alloc _ _ _ (by simp)];exact heap_alloc_new w _
 have:=heap_alloc_new (w.alloc (.cells #[.int .i64 0,.int .i64 0,.int .i64 0,.string { data := #[] }] 103)) (.cells #[.int .i64 0,.int .i64 ln,.int .i64 0,.string { data := #[] }] 103)
 simpa using this
theorem Nw (s:ByteArray) (i:Nat) (ln:Int) (hs:s.size<=281474976710656) (hi:i<s.size) (b:UInt8) (hb:s[i]=b) (h1:lt8 b=true) (w:World):Calls Tryz.prog 82 #[.string s,.int .i64 i,.int .i64 ln] w (Nk (s.data.toList.drop i) i ln w):=by
 have H1:=Xj h1
 clear h1
 have HZ:=Xj (Gw w ln)
 obtain⟨t,ht⟩:∃ t,t=run in8 (s.data.toList.drop i):=⟨_,rfl⟩
 obtain⟨K,hK⟩:∃ K,K=i+t.length:=⟨_,rfl⟩
 have HX:Xq (s.extract i K=st t):=Xj (by
  rw[Vy,List.drop_take,hK,Nat.add_sub_cancel_left,ht]
  congr 1
  unfold run
  exact(List.prefix_iff_eq_take.1 (List.takeWhile_prefix _)).symm)
 have HTL:Xq (t.length<=s.size-i):=Xj (by rw[ht];refine Nat.le_trans (Vb _ _) ?_;rw[List.length_drop,st_len];exact Nat.le_refl _)
 have hdk:Xq (∀ c∈t,in8 c=true):=Xj (λ c hc=>by rw[ht] at hc;exact List.all_eq_true.1 List.all_takeWhile c hc)
 have hgi:=Qr s i hi
 rw[hb] at hgi
 obtain⟨r0,hr0⟩:∃ r0,t=b::r0:=by
  have hd:s.data.toList.drop i=b::s.data.toList.drop (i+1):=by
   obtain⟨hlt,he⟩:=List.getElem?_eq_some_iff.1 hgi
   rw[List.drop_eq_getElem_cons hlt,he]
  rw[ht,hd]
  unfold run
  rw[List.takeWhile_cons,show in8 b=true by unfold in8;rw[H1.o];rfl,if_pos rfl]
  exact⟨_,rfl⟩
 have HT0:=Xj hr0
 have HNX:Xq (nxI (s.data.toList.drop i)=(if isW t then 3 else 1,0,t,decide (t.length<=32))):=Xj (by
  have hd:s.data.toList.drop i=b::s.data.toList.drop (i+1):=by
   obtain⟨hlt,he⟩:=List.getElem?_eq_some_iff.1 hgi
   rw[List.drop_eq_getElem_cons hlt,he]
  rw[hd] at ht ⊢
  show (if lt8 b then _ else _)=_
  rw[H1.o,if_pos rfl,<- ht])
 have HTM:Xq (t.length<=281474976710656):=Xj (by have:=HTL.o;omega)
 clear hr0 hgi
 have HT:=Xj ht
 have HK:=Xj hK
 clear hK ht
 go_enter Tryz.func82,Tryz.ntmps82
 go_wp2_with fail
 refine(Qg b _).mono ?_
 rintro e w1 ⟨rfl,rfl⟩
 rw[H1.o]
 obtain⟨wa,hwa⟩:∃ wa,wa=((w.alloc (.cells #[.int .i64 0,.int .i64 0,.int .i64 0,.string { data := #[] }] 103)).alloc (.cells #[.int .i64 0,.int .i64 ln,.int .i64 0,.string { data := #[] }] 103)):=⟨_,rfl⟩
 rw[<- hwa]
 obtain⟨hba,hb2,hb5⟩:=HZ.o wa hwa
 obtain⟨g5,hg5⟩:∃ g5,w.heap.size+1=g5:=⟨_,rfl⟩
 obtain⟨g2,hg2⟩:∃ g2,w.heap.size=g2:=⟨_,rfl⟩
 rw[hg5] at hb5 ⊢
 rw[hg2] at hb2
 try rw[hg2]
 have HBA:=Xj hba
 have HG:Xq (w.heap.size<=g2/\w.heap.size<=g5/\g2≠g5):=Xj (by omega)
 have HB2:=Xj hb2
 have HB5:=Xj hb5
 clear hwa hba hg5 hg2 hb2 hb5
 go_upto_block 1 with fail
 go_cut [9] from 22 to 45 (λ v9 wx=>v9=.int .i64 K/\wx=wa)
 case first =>
  go_wp2_with fail
  go_loopw [9] (λ v9 wr=>∃ k:Nat,i<=k/\k<=s.size/\v9=.int .i64 k/\wr=wa/\Xq (∀ j,i<=j->j<k->∃ b,s.data.toList[j]?=some b/\in8 b=true)) (λ v _=>s.size-(intOf v).toNat)
  case atStart=>exact⟨i,by omega,by omega,rfl,rfl,Xj (λ j h1 h2=>absurd h2 (by omega))⟩
  obtain⟨k,hk0,hk,rfl,rfl,HA⟩:=hrel
  by_cases hlt:k<s.size
  ·have HGK:=Xj (Qr s k hlt)
   obtain⟨c,hc⟩:∃ c,s[k]=c:=⟨_,rfl⟩
   rw[hc] at HGK
   go_wp2_with fail
   try rw[hc]
   refine(Qg c _).mono ?_
   rintro e w1 ⟨rfl,rfl⟩
   cases h1:lt8 c
   ·go_wp2_with fail
    try rw[hc]
    refine(Up c _).mono ?_
    rintro e w1 ⟨rfl,rfl⟩
    cases h2:dg8 c
    ·by_cases h95:c.toNat=95
     ·have hd:((c.toNat:Int)==95)=true:=by rw[h95];rfl
      have HIN:Xq (in8 c=true):=Xj (by unfold in8;simp[h95])
      go_wp2_with fail
      go_roundw
      case rel=>exact⟨k+1,by omega,by omega,by go_num,by first|rfl|trivial,Xj (Wm HA.o HGK.o HIN.o)⟩
      simp[intOf];omega
     have hd:((c.toNat:Int)==95)=false:=by rw[beq_eq_false_iff_ne];omega
     have HIN:Xq (in8 c=false):=Xj (by unfold in8;simp[h1,h2,h95])
     have HKK:Xq (K=k):=Xj (by rw[HK.o,HT.o];exact Jx hk0 (by rw[st_len];exact hk) HA.o (λ b hb=>by rw[HGK.o] at hb;injection hb with hb;subst hb;exact HIN.o))
     go_wp2_with fail
     go_meet
     exact⟨by rw[HKK.o],rfl⟩
    have HIN:Xq (in8 c=true):=Xj (by unfold in8;simp[h2])
    go_wp2_with fail
    go_roundw
    case rel=>exact⟨k+1,by omega,by omega,by go_num,by first|rfl|trivial,Xj (Wm HA.o HGK.o HIN.o)⟩
    simp[intOf];omega
   have HIN:Xq (in8 c=true):=Xj (by unfold in8;simp[h1])
   go_wp2_with fail
   go_roundw
   case rel=>exact⟨k+1,by omega,by omega,by go_num,by first|rfl|trivial,Xj (Wm HA.o HGK.o HIN.o)⟩
   simp[intOf];omega
  obtain rfl:k=s.size:=by omega
  have HKK:Xq (K=s.size):=Xj (by rw[HK.o,HT.o];exact Jx hk0 (by rw[st_len];exact hk) HA.o (λ b hb=>by
   have:=(List.getElem?_eq_some_iff.1 hb).1
   rw[st_len] at this;omega))
  go_wp2_with fail
  go_meet
  exact⟨by rw[HKK.o],rfl⟩
 obtain⟨rfl,rfl⟩:=hcut
 have hxk:=HX.o
 have hK1:i<=K:=by have:=HK.o;omega
 have hK2:K<=s.size:=by have h1:=HK.o;have h2:=HTL.o;omega
 have h5n:=HB5.o
 have k0:=cell_of_row _ _ 0 _ _ _ h5n
 have k1:=cell_of_row _ _ 1 _ _ _ h5n
 have k2:=cell_of_row _ _ 2 _ _ _ h5n
 have k3:=cell_of_row _ _ 3 _ _ _ h5n
 have j0:=frozen_of_row _ g5 0 _ _ h5n
 have j3:=frozen_of_row _ g5 3 _ _ h5n
 have jl:=Xv h5n
 go_wp2_with fail
 have h5a:=heap_setCell_same _ g5 0 _ _ (.int .i64 1) (heap_setCell_same _ g5 3 _ _ (.string (st t)) h5n)
 have h2a:=(heap_setCell_other (wc.setCell ⟨g5,3,none⟩ (.string (st t))) ⟨g5,0,none⟩ g2 (.int .i64 1) (λ e=>HG.o.2.2 e)).trans ((heap_setCell_other wc ⟨g5,3,none⟩ g2 (.string (st t)) (λ e=>HG.o.2.2 e)).trans HB2.o)
 have hbB:=(HBA.o.setCell (p:=⟨g5,3,none⟩) HG.o.2.1 (.string (st t))).setCell (p:=⟨g5,0,none⟩) HG.o.2.1 (.int .i64 1)
 obtain⟨wB,hwB⟩:∃ wB,(wc.setCell ⟨g5,3,none⟩ (.string (st t))).setCell ⟨g5,0,none⟩ (.int .i64 1)=wB:=⟨_,rfl⟩
 rw[hwB] at h5a h2a hbB ⊢
 refine(Dw t _).mono ?_
 rintro e wC ⟨rfl,hbC⟩
 have h5c:=(hbC.block g5 (Xv h5a)).trans h5a
 have h2c:=(hbC.block g2 (Xv h2a)).trans h2a
 have HBC:=Xj (hbB.trans (hbC.mono hbB.size))
 clear hwB h5a h2a hbB hbC k0 k1 k2 k3 j0 j3 jl h5n
 clear wB
 have HB2:=Xj h2c
 have HB5:=Xj h5c
 clear h2c
 have k0:=cell_of_row _ _ 0 _ _ _ h5c
 have k1:=cell_of_row _ _ 1 _ _ _ h5c
 have k2:=cell_of_row _ _ 2 _ _ _ h5c
 have k3:=cell_of_row _ _ 3 _ _ _ h5c
 have j0:=frozen_of_row _ g5 0 _ _ h5c
 have jl:=Xv h5c
 clear h5c
 cases hW:isW t
 ·have HNM:=Xj (λ W=>Om t b r0 HT0.o H1.o hW (λ c hc=>hdk.o c hc) HTM.o W)
  have HAN:Xq (((decide (t.length<=32))=true/\ln=ln/\(K:Int)=(i:Int)+t.length/\nxI (s.data.toList.drop i)=(1,0,t,true))\/((decide (t.length<=32))=false/\(nxI (s.data.toList.drop i)).2.2.2=false)):=Xj (by
   rw[HNX.o,hW]
   cases h:decide (t.length<=32)
   ·exact .inr ⟨rfl,rfl⟩
   exact .inl ⟨rfl,rfl,by have:=HK.o;omega,rfl⟩)
  clear hW
  go_upto_region 9 with fail
  obtain⟨wD,hwD⟩:∃ wD,wC=wD:=⟨_,rfl⟩
  rw[hwD] at HBC HB2 HB5 k0 k1 k2 k3 j0 jl ⊢
  have HBD:=HBC
  clear hwD
  refine wp_region_held_drew (S:=(λ w'=>w'.cell? ⟨g5,0,none⟩=some (.int .i64 1)/\w'.cell? ⟨g5,1,none⟩=some (.int .i64 ln)/\w'.cell? ⟨g5,2,none⟩=some (.int .i64 0)/\w'.cell? ⟨g5,3,none⟩=some (.string (st t)))) (by kernel_rfl) ⟨k0,k1,k2,k3⟩ (λ hJ=>?_)
  refine tkH 0 56 ?_
  refine tkH 1 57 ?_
  refine tkH 2 58 ?_
  refine tkH 3 59 ?_
  refine tkH 4 60 ?_
  refine tkH 5 61 ?_
  refine tkH 6 62 ?_
  refine tkH 7 63 ?_
  refine rdH 8 λ K hK=>?_
  go_simp
  refine(HNM.o _).mono ?_
  rintro e wy ⟨rfl,hby0⟩
  have hby:=(Below.refl wD.heap.size wD).drew.trans (hby0.mono (Nat.le_refl _))
  refine goH hK ⟨(hby.cell (p:=⟨g5,0,none⟩) jl).trans k0,(hby.cell (p:=⟨g5,1,none⟩) jl).trans k1,(hby.cell (p:=⟨g5,2,none⟩) jl).trans k2,(hby.cell (p:=⟨g5,3,none⟩) jl).trans k3⟩ λ hJ=>?_
  clear hK K hby0
  refine tkH 9 65 ?_
  refine rdH 10 λ K hK=>?_
  have h2n:=(hby.block g2 (Xv HB2.o)).trans HB2.o
  have HBY:=Xj (HBD.o.trans (hby.mono HBD.o.size))
  clear hby
  have c0:=cell_of_row _ _ 0 _ _ _ h2n
  have c1:=cell_of_row _ _ 1 _ _ _ h2n
  have c2:=cell_of_row _ _ 2 _ _ _ h2n
  have c3:=cell_of_row _ _ 3 _ _ _ h2n
  have f0:=frozen_of_row _ g2 0 _ _ h2n
  have f1:=frozen_of_row _ g2 1 _ _ h2n
  have f2:=frozen_of_row _ g2 2 _ _ h2n
  have f3:=frozen_of_row _ g2 3 _ _ h2n
  have jl2:=Xv h2n
  go_simp
  refine goH hK ⟨Xs HG.o.2.2 hJ.1,Xs HG.o.2.2 hJ.2.1,Xs HG.o.2.2 hJ.2.2.1,Xs HG.o.2.2 hJ.2.2.2⟩ λ hJ=>?_
  clear hK K
  refine tkH 11 7 ?_
  refine tkH 12 8 ?_
  refine wpAnyH_done (by kernel_rfl) ?_ _
  refine Xz ?_
  have hZ:=Yt (v0:=.int .i64 1) (v1:=.int .i64 ln) (v2:=.int .i64 0) (v3:=.string (st t)) h2n
  have hjw:=Zw (v0:=.int .i64 1) (v1:=.int .i64 ln) (v2:=.int .i64 0) (v3:=.string (st t)) HBY.o HG.o.1
  have q0:=cell_of_row _ _ 0 _ _ _ hZ
  have q1:=cell_of_row _ _ 1 _ _ _ hZ
  have q2:=cell_of_row _ _ 2 _ _ _ hZ
  have q3:=cell_of_row _ _ 3 _ _ _ hZ
  have hju:=Xj hjw
  obtain⟨wn,hwn⟩:∃ wn,set4 wy g2 (.int .i64 1) (.int .i64 ln) (.int .i64 0) (.string (st t))=wn:=⟨_,rfl⟩
  have hjv:=hwn
  unfold set4 at hjv
  rw[hjv]
  rw[hwn] at hju q0 q1 q2 q3
  clear hwn hjv hZ hjw h2n c0 c1 c2 c3 f0 f1 f2 f3 jl2 k0 k1 k2 k3 jl hJ
  go_wp2_with fail
  refine bodyPost_ret (v:=.tuple #[tkv 1 ln 0 t,.int .i64 K,.bool (decide (t.length<=32))]) (by simp[results,Tryz.results82,go_sem,q0,q1,q2,q3]) rfl ?_
  exact⟨hju.o,1,ln,0,t,K,(decide (t.length<=32)),rfl,by rcases HAN.o with h|h;exact .inl ⟨by first|exact h.1|rfl,rfl,h.2.2⟩;exact .inr h⟩
 have HAN:Xq ((true=true/\ln=ln/\(K:Int)=(i:Int)+t.length/\nxI (s.data.toList.drop i)=(3,0,t,true))\/(true=false/\(nxI (s.data.toList.drop i)).2.2.2=false)):=Xj (by
  rw[HNX.o,hW,decide_eq_true (xqq hW)]
  exact .inl ⟨rfl,rfl,by have:=HK.o;omega,rfl⟩)
 clear hW
 have HB5':=Xj (heap_setCell_same _ g5 0 _ _ (.int .i64 3) HB5.o)
 have HB2':=Xj ((heap_setCell_other wC ⟨g5,0,none⟩ g2 (.int .i64 3) (λ e=>HG.o.2.2 e)).trans HB2.o)
 have HBC':=Xj (HBC.o.setCell (p:=⟨g5,0,none⟩) HG.o.2.1 (.int .i64 3))
 go_upto_region 9 with fail
 obtain⟨wD,hwD⟩:∃ wD,wC.setCell ⟨g5,0,none⟩ (.int .i64 3)=wD:=⟨_,rfl⟩
 rw[hwD] at HB5' HB2' HBC' ⊢
 clear hwD k0 k1 k2 k3 j0 jl HB2 HB5 HBC
 have HB2:=HB2'
 have HB5:=HB5'
 have HBD:=HBC'
 clear HB2' HB5' HBC'
 have k0:=cell_of_row _ _ 0 _ _ _ HB5.o
 have k1:=cell_of_row _ _ 1 _ _ _ HB5.o
 have k2:=cell_of_row _ _ 2 _ _ _ HB5.o
 have k3:=cell_of_row _ _ 3 _ _ _ HB5.o
 have jl:=Xv HB5.o
 refine wp_region_held_drew (S:=(λ w'=>w'.cell? ⟨g5,0,none⟩=some (.int .i64 3)/\w'.cell? ⟨g5,1,none⟩=some (.int .i64 ln)/\w'.cell? ⟨g5,2,none⟩=some (.int .i64 0)/\w'.cell? ⟨g5,3,none⟩=some (.string (st t)))) (by kernel_rfl) ⟨k0,k1,k2,k3⟩ (λ hJ=>?_)
 refine tkH 0 56 ?_
 refine tkH 1 57 ?_
 refine tkH 2 58 ?_
 refine tkH 3 59 ?_
 refine tkH 4 60 ?_
 refine tkH 5 61 ?_
 refine tkU 6 62 ?_
 refine tkU 7 63 ?_
 refine tkU 8 64 ?_
 have hby:Below wD.heap.size wD wD.drew:=(Below.refl _ _).drew
 obtain⟨wy,hwy⟩:∃ wy,wD.drew=wy:=⟨_,rfl⟩
 rw[hwy] at hby hJ ⊢
 clear hwy
 refine tkH 9 65 ?_
 refine rdH 10 λ K hK=>?_
 have h2n:=(hby.block g2 (Xv HB2.o)).trans HB2.o
 have HBY:=Xj (HBD.o.trans (hby.mono HBD.o.size))
 clear hby
 have c0:=cell_of_row _ _ 0 _ _ _ h2n
 have c1:=cell_of_row _ _ 1 _ _ _ h2n
 have c2:=cell_of_row _ _ 2 _ _ _ h2n
 have c3:=cell_of_row _ _ 3 _ _ _ h2n
 have f0:=frozen_of_row _ g2 0 _ _ h2n
 have f1:=frozen_of_row _ g2 1 _ _ h2n
 have f2:=frozen_of_row _ g2 2 _ _ h2n
 have f3:=frozen_of_row _ g2 3 _ _ h2n
 have jl2:=Xv h2n
 go_simp
 refine goH hK ⟨Xs HG.o.2.2 hJ.1,Xs HG.o.2.2 hJ.2.1,Xs HG.o.2.2 hJ.2.2.1,Xs HG.o.2.2 hJ.2.2.2⟩ λ hJ=>?_
 clear hK K
 refine tkH 11 7 ?_
 refine tkH 12 8 ?_
 refine wpAnyH_done (by kernel_rfl) ?_ _
 refine Xz ?_
 have hZ:=Yt (v0:=.int .i64 3) (v1:=.int .i64 ln) (v2:=.int .i64 0) (v3:=.string (st t)) h2n
 have hjw:=Zw (v0:=.int .i64 3) (v1:=.int .i64 ln) (v2:=.int .i64 0) (v3:=.string (st t)) HBY.o HG.o.1
 have q0:=cell_of_row _ _ 0 _ _ _ hZ
 have q1:=cell_of_row _ _ 1 _ _ _ hZ
 have q2:=cell_of_row _ _ 2 _ _ _ hZ
 have q3:=cell_of_row _ _ 3 _ _ _ hZ
 have hju:=Xj hjw
 obtain⟨wn,hwn⟩:∃ wn,set4 wy g2 (.int .i64 3) (.int .i64 ln) (.int .i64 0) (.string (st t))=wn:=⟨_,rfl⟩
 have hjv:=hwn
 unfold set4 at hjv
 rw[hjv]
 rw[hwn] at hju q0 q1 q2 q3
 clear hwn hjv hZ hjw h2n c0 c1 c2 c3 f0 f1 f2 f3 jl2 k0 k1 k2 k3 jl hJ
 go_wp2_with fail
 refine bodyPost_ret (v:=.tuple #[tkv 3 ln 0 t,.int .i64 K,.bool true]) (by simp[results,Tryz.results82,go_sem,q0,q1,q2,q3]) rfl ?_
 exact⟨hju.o,3,ln,0,t,K,true,rfl,by rcases HAN.o with h|h;exact .inl ⟨by first|exact h.1|rfl,rfl,h.2.2⟩;exact .inr h⟩
theorem Pj (s:ByteArray) (i:Nat) (ln:Int) (hs:s.size<=281474976710656) (hi:i<s.size) (b:UInt8) (hb:s[i]=b) (h1:lt8 b=false) (h2:dg8 b=true) (w:World):Calls Tryz.prog 82 #[.string s,.int .i64 i,.int .i64 ln] w (Nk (s.data.toList.drop i) i ln w):=by
 have H1:=Xj h1
 have H2:=Xj h2
 clear h1 h2
 have HZ:=Xj (Gw w ln)
 obtain⟨t,ht⟩:∃ t,t=run dg8 (s.data.toList.drop i):=⟨_,rfl⟩
 obtain⟨K,hK⟩:∃ K,K=i+t.length:=⟨_,rfl⟩
 have HX:Xq (s.extract i K=st t):=Xj (by
  rw[Vy,List.drop_take,hK,Nat.add_sub_cancel_left,ht]
  congr 1
  unfold run
  exact(List.prefix_iff_eq_take.1 (List.takeWhile_prefix _)).symm)
 have HTL:Xq (t.length<=s.size-i):=Xj (by rw[ht];refine Nat.le_trans (Vb _ _) ?_;rw[List.length_drop,st_len];exact Nat.le_refl _)
 have hdy:Xq (Gs t):=Xj (by rw[ht];exact Nl _)
 have hgi:=Qr s i hi
 rw[hb] at hgi
 have HNX:=Xj (xxv (l:=s.data.toList.drop i) (b:=b) (rest:=s.data.toList.drop (i+1)) (by
  obtain⟨hlt,he⟩:=List.getElem?_eq_some_iff.1 hgi
  rw[List.drop_eq_getElem_cons hlt,he]) H1.o H2.o t ht)
 have HTM:Xq (t.length<=281474976710656):=Xj (by have:=HTL.o;omega)
 have HNU:=Xj (λ W=>Rx t hdy.o HTM.o W)
 clear hgi
 have HT:=Xj ht
 have HK:=Xj hK
 clear hK ht
 go_enter Tryz.func82,Tryz.ntmps82
 go_wp2_with fail
 refine(Qg b _).mono ?_
 rintro e w1 ⟨rfl,rfl⟩
 rw[H1.o]
 go_wp2_with fail
 try rw[hb]
 refine(Up b _).mono ?_
 rintro e w1 ⟨rfl,rfl⟩
 rw[H2.o]
 obtain⟨wa,hwa⟩:∃ wa,wa=((w.alloc (.cells #[.int .i64 0,.int .i64 0,.int .i64 0,.string { data := #[] }] 103)).alloc (.cells #[.int .i64 0,.int .i64 ln,.int .i64 0,.string { data := #[] }] 103)):=⟨_,rfl⟩
 rw[<- hwa]
 obtain⟨hba,hb2,hb5⟩:=HZ.o wa hwa
 obtain⟨g5,hg5⟩:∃ g5,w.heap.size+1=g5:=⟨_,rfl⟩
 obtain⟨g2,hg2⟩:∃ g2,w.heap.size=g2:=⟨_,rfl⟩
 rw[hg5] at hb5 ⊢
 rw[hg2] at hb2
 try rw[hg2]
 have HBA:=Xj hba
 have HG:Xq (w.heap.size<=g2/\w.heap.size<=g5/\g2≠g5):=Xj (by omega)
 have HB2:=Xj hb2
 have HB5:=Xj hb5
 clear hwa hba hg5 hg2 hb2 hb5
 go_upto_block 3 with fail
 go_cut [9] from 71 to 82 (λ v9 wx=>v9=.int .i64 K/\wx=wa)
 case first =>
  go_wp2_with fail
  go_loopw [9] (λ v9 wr=>∃ k:Nat,i<=k/\k<=s.size/\v9=.int .i64 k/\wr=wa/\Xq (∀ j,i<=j->j<k->∃ b,s.data.toList[j]?=some b/\dg8 b=true)) (λ v _=>s.size-(intOf v).toNat)
  case atStart=>exact⟨i,by omega,by omega,rfl,rfl,Xj (λ j h1 h2=>absurd h2 (by omega))⟩
  obtain⟨k,hk0,hk,rfl,rfl,HA⟩:=hrel
  by_cases hlt:k<s.size
  ·have HGK:=Xj (Qr s k hlt)
   obtain⟨c,hc⟩:∃ c,s[k]=c:=⟨_,rfl⟩
   rw[hc] at HGK
   go_wp2_with fail
   try rw[hc]
   refine(Up c _).mono ?_
   rintro e w1 ⟨rfl,rfl⟩
   cases h2:dg8 c
   ·have HIN:Xq (dg8 c=false):=Xj h2
    have HKK:Xq (K=k):=Xj (by rw[HK.o,HT.o];exact Jx hk0 (by rw[st_len];exact hk) HA.o (λ b hb=>by rw[HGK.o] at hb;injection hb with hb;subst hb;exact HIN.o))
    go_wp2_with fail
    go_meet
    exact⟨by rw[HKK.o],rfl⟩
   have HIN:Xq (dg8 c=true):=Xj h2
   go_wp2_with fail
   go_roundw
   case rel=>exact⟨k+1,by omega,by omega,by go_num,by first|rfl|trivial,Xj (Wm HA.o HGK.o HIN.o)⟩
   simp[intOf];omega
  obtain rfl:k=s.size:=by omega
  have HKK:Xq (K=s.size):=Xj (by rw[HK.o,HT.o];exact Jx hk0 (by rw[st_len];exact hk) HA.o (λ b hb=>by
   have:=(List.getElem?_eq_some_iff.1 hb).1
   rw[st_len] at this;omega))
  go_wp2_with fail
  go_meet
  exact⟨by rw[HKK.o],rfl⟩
 obtain⟨rfl,rfl⟩:=hcut
 have hxk:=HX.o
 have hK1:i<=K:=by have:=HK.o;omega
 have hK2:K<=s.size:=by have h1:=HK.o;have h2:=HTL.o;omega
 have h5n:=HB5.o
 have k0:=cell_of_row _ _ 0 _ _ _ h5n
 have k1:=cell_of_row _ _ 1 _ _ _ h5n
 have k2:=cell_of_row _ _ 2 _ _ _ h5n
 have k3:=cell_of_row _ _ 3 _ _ _ h5n
 have j0:=frozen_of_row _ g5 0 _ _ h5n
 have j2:=frozen_of_row _ g5 2 _ _ h5n
 have j3:=frozen_of_row _ g5 3 _ _ h5n
 have jl:=Xv h5n
 go_wp2_with fail
 refine(HNU.o _).mono ?_
 rintro e w1 ⟨rfl,rfl⟩
 go_upto_region 16 with fail
 have h5a:=heap_setCell_same _ g5 2 _ _ (.int .i64 (rnV t)) (heap_setCell_same _ g5 0 _ _ (.int .i64 2) (heap_setCell_same _ g5 3 _ _ (.string (st t)) h5n))
 have h2a:=(heap_setCell_other ((wc.setCell ⟨g5,3,none⟩ (.string (st t))).setCell ⟨g5,0,none⟩ (.int .i64 2)) ⟨g5,2,none⟩ g2 (.int .i64 (rnV t)) (λ e=>HG.o.2.2 e)).trans ((heap_setCell_other (wc.setCell ⟨g5,3,none⟩ (.string (st t))) ⟨g5,0,none⟩ g2 (.int .i64 2) (λ e=>HG.o.2.2 e)).trans ((heap_setCell_other wc ⟨g5,3,none⟩ g2 (.string (st t)) (λ e=>HG.o.2.2 e)).trans HB2.o))
 have hbB:=((HBA.o.setCell (p:=⟨g5,3,none⟩) HG.o.2.1 (.string (st t))).setCell (p:=⟨g5,0,none⟩) HG.o.2.1 (.int .i64 2)).setCell (p:=⟨g5,2,none⟩) HG.o.2.1 (.int .i64 (rnV t))
 obtain⟨wB,hwB⟩:∃ wB,((wc.setCell ⟨g5,3,none⟩ (.string (st t))).setCell ⟨g5,0,none⟩ (.int .i64 2)).setCell ⟨g5,2,none⟩ (.int .i64 (rnV t))=wB:=⟨_,rfl⟩
 rw[hwB] at h5a h2a hbB ⊢
 clear hwB k0 k1 k2 k3 j0 j2 j3 jl h5n
 have HB5':=Xj h5a
 have HB2':=Xj h2a
 have HBB:=Xj hbB
 clear h5a h2a hbB
 obtain⟨bad,hqs⟩:∃ bad,bad=(decide (t.length<(run in8 (s.data.toList.drop i)).length)||(decide (b.toNat=48)&&decide (1<t.length))):=⟨_,rfl⟩
 have hqg:=Xj hqs
 clear hqs
 go_cut [124] from 97 to 124 (λ v wx=>v=.bool bad/\wx=wB)
 case first =>
  have H0:Xq ((run dg8 (s.data.toList.drop i)).length<(run in8 (s.data.toList.drop i)).length->True):=Xj (λ _=>trivial)
  by_cases hlt:K<s.size
  ·have hgk:=Qr s K hlt
   obtain⟨c,hc⟩:∃ c,s[K]=c:=⟨_,rfl⟩
   rw[hc] at hgk
   have hgd:(s.data.toList.drop i)[t.length]?=some c:=by rw[List.getElem?_drop,<- HK.o];exact hgk
   have hrn:=Nh (p:=dg8) (q:=in8) (λ b hb=>by unfold in8;simp[hb]) (s.data.toList.drop i) c (by rw[<- HT.o];exact hgd)
   rw[<- HT.o] at hrn
   have hcd:dg8 c=false:=by
    cases hx:dg8 c
    ·rfl
    exfalso
    have hq:=Nh (p:=dg8) (q:=dg8) (λ b hb=>hb) (s.data.toList.drop i) c (by rw[<- HT.o];exact hgd)
    rw[hx] at hq;simp at hq
   have hzb:bad=(in8 c||(decide (b.toNat=48)&&decide (1<t.length))):=by rw[hqg.o,hrn]
   clear hrn hgd
   have HB3:=Xj hzb
   clear hzb hgk
   have H3:=Xj hcd
   clear hcd
   go_wp2_with fail
   try rw[hc]
   refine(Qg c _).mono ?_
   rintro e w1 ⟨rfl,rfl⟩
   cases hl8:lt8 c
   ·by_cases h95:c.toNat=95
    ·have hd:((c.toNat:Int)==95)=true:=by rw[h95];rfl
     have HIN:Xq (bad=true):=Xj (by rw[HB3.o];unfold in8;simp[h95])
     go_wp2_with fail
     go_meet
     exact⟨by rw[HIN.o],rfl⟩
    have hd:((c.toNat:Int)==95)=false:=by rw[beq_eq_false_iff_ne];omega
    by_cases h48:b.toNat=48
    ·have hd2:((b.toNat:Int)==48)=true:=by rw[h48];rfl
     have HIN:Xq (bad=decide (i+1<K)):=Xj (by
      rw[HB3.o];unfold in8;simp[h95,h48,hl8,H3.o]
      have:=HK.o;omega)
     clear h48
     go_wp2_with fail
     go_meet
     exact⟨by rw[HIN.o];try congr 1;try (apply Bool.eq_iff_iff.2;simp;omega),rfl⟩
    have hd2:((b.toNat:Int)==48)=false:=by rw[beq_eq_false_iff_ne];omega
    have HIN:Xq (bad=false):=Xj (by rw[HB3.o];unfold in8;simp[h95,h48,hl8,H3.o])
    go_wp2_with fail
    go_meet
    exact⟨by rw[HIN.o],rfl⟩
   have HIN:Xq (bad=true):=Xj (by rw[HB3.o];unfold in8;simp[hl8])
   go_wp2_with fail
   go_meet
   exact⟨by rw[HIN.o],rfl⟩
  obtain hKs:K=s.size:=by omega
  have hzb:bad=(decide (b.toNat=48)&&decide (1<t.length)):=by
   rw[hqg.o]
   have h1:(run in8 (s.data.toList.drop i)).length<=s.size-i:=Nat.le_trans (Vb _ _) (by rw[List.length_drop,st_len];exact Nat.le_refl _)
   have h2:=HK.o
   rw[decide_eq_false (by omega)];simp
  have HB3:=Xj hzb
  clear hzb
  by_cases h48:b.toNat=48
  ·have hd2:((b.toNat:Int)==48)=true:=by rw[h48];rfl
   have HIN:Xq (bad=decide (i+1<K)):=Xj (by
    rw[HB3.o];simp[h48]
    have:=HK.o;omega)
   clear h48
   go_wp2_with fail
   go_meet
   exact⟨by rw[HIN.o];try congr 1;try (apply Bool.eq_iff_iff.2;simp;omega),rfl⟩
  have hd2:((b.toNat:Int)==48)=false:=by rw[beq_eq_false_iff_ne];omega
  have HIN:Xq (bad=false):=Xj (by rw[HB3.o];simp[h48])
  go_wp2_with fail
  go_meet
  exact⟨by rw[HIN.o],rfl⟩
 obtain⟨rfl,rfl⟩:=hcut
 have k0:=cell_of_row _ _ 0 _ _ _ HB5'.o
 have k1:=cell_of_row _ _ 1 _ _ _ HB5'.o
 have k2:=cell_of_row _ _ 2 _ _ _ HB5'.o
 have k3:=cell_of_row _ _ 3 _ _ _ HB5'.o
 have c0:=cell_of_row _ _ 0 _ _ _ HB2'.o
 have c1:=cell_of_row _ _ 1 _ _ _ HB2'.o
 have c2:=cell_of_row _ _ 2 _ _ _ HB2'.o
 have c3:=cell_of_row _ _ 3 _ _ _ HB2'.o
 have f0:=frozen_of_row _ g2 0 _ _ HB2'.o
 have f1:=frozen_of_row _ g2 1 _ _ HB2'.o
 have f2:=frozen_of_row _ g2 2 _ _ HB2'.o
 have f3:=frozen_of_row _ g2 3 _ _ HB2'.o
 have jl2:=Xv HB2'.o
 have hZ:=Yt (v0:=.int .i64 2) (v1:=.int .i64 ln) (v2:=.int .i64 (rnV t)) (v3:=.string (st t)) HB2'.o
 have hjw:=Zw (v0:=.int .i64 2) (v1:=.int .i64 ln) (v2:=.int .i64 (rnV t)) (v3:=.string (st t)) HBB.o HG.o.1
 have q0:=cell_of_row _ _ 0 _ _ _ hZ
 have q1:=cell_of_row _ _ 1 _ _ _ hZ
 have q2:=cell_of_row _ _ 2 _ _ _ hZ
 have q3:=cell_of_row _ _ 3 _ _ _ hZ
 have hju:=Xj hjw
 clear hZ hjw
 have HAN:Xq (((rnO t && !bad)=true/\ln=ln/\(K:Int)=(i:Int)+t.length/\nxI (s.data.toList.drop i)=(2,rnV t,t,true))\/((rnO t && !bad)=false/\(nxI (s.data.toList.drop i)).2.2.2=false)):=Xj (by
  rcases HNX.o bad hqg.o with h|h
  ·exact .inl ⟨h.1,rfl,by have:=HK.o;omega,h.2⟩
  exact .inr h)
 cases bad
 ·go_wp2_with fail
  refine bodyPost_ret (v:=.tuple #[tkv 2 ln (rnV t) t,.int .i64 K,.bool (rnO t)]) (by simp[results,Tryz.results82,go_sem,q0,q1,q2,q3]) rfl ?_
  exact⟨hju.o,2,ln,rnV t,t,K,rnO t,rfl,by rcases HAN.o with h|h;exact .inl ⟨by simpa using h.1,rfl,h.2.2⟩;exact .inr ⟨by simpa using h.1,h.2⟩⟩
 go_wp2_with fail
 refine bodyPost_ret (v:=.tuple #[tkv 2 ln (rnV t) t,.int .i64 K,.bool false]) (by simp[results,Tryz.results82,go_sem,q0,q1,q2,q3]) rfl ?_
 exact⟨hju.o,2,ln,rnV t,t,K,false,rfl,by rcases HAN.o with h|h;exact absurd h.1 (by simp);exact .inr ⟨rfl,h.2⟩⟩
theorem xjs {l:Bt} {b:UInt8} {rest:Bt} (hl:l=b::rest) (h1:lt8 b=false) (h2:dg8 b=false):nxI l=(if 1<l.length/\isS (l.take 2)=true then (4,0,l.take 2,true) else (4,0,l.take 1,isS (l.take 1))):=by
 subst hl
 show (if lt8 b then _ else _)=_
 rw[h1];simp only[Bool.false_eq_true,if_false]
 rw[h2];simp only[Bool.false_eq_true,if_false]
theorem It (s:ByteArray) (i n:Nat):s.extract i (i+n)=st ((s.data.toList.drop i).take n):=by
 rw[Vy,List.drop_take,Nat.add_sub_cancel_left]
theorem Rr (s:ByteArray) (i:Nat) (ln:Int) (hs:s.size<=281474976710656) (hi:i<s.size) (b:UInt8) (hb:s[i]=b) (h1:lt8 b=false) (h2:dg8 b=false) (w:World):Calls Tryz.prog 82 #[.string s,.int .i64 i,.int .i64 ln] w (Nk (s.data.toList.drop i) i ln w):=by
 have H1:=Xj h1
 have H2:=Xj h2
 clear h1 h2
 have HZ:=Xj (Gw w ln)
 have hgi:=Qr s i hi
 rw[hb] at hgi
 have HNX:=Xj (xjs (l:=s.data.toList.drop i) (b:=b) (rest:=s.data.toList.drop (i+1)) (by
  obtain⟨hlt,he⟩:=List.getElem?_eq_some_iff.1 hgi
  rw[List.drop_eq_getElem_cons hlt,he]) H1.o H2.o)
 have HLN:Xq ((s.data.toList.drop i).length=s.size-i):=Xj (by rw[List.length_drop,st_len])
 clear hgi
 have HEX:=Xj (λ n=>It s i n)
 go_enter Tryz.func82,Tryz.ntmps82
 go_wp2_with fail
 refine(Qg b _).mono ?_
 rintro e w1 ⟨rfl,rfl⟩
 rw[H1.o]
 go_wp2_with fail
 try rw[hb]
 refine(Up b _).mono ?_
 rintro e w1 ⟨rfl,rfl⟩
 rw[H2.o]
 obtain⟨wa,hwa⟩:∃ wa,wa=((w.alloc (.cells #[.int .i64 0,.int .i64 0,.int .i64 0,.string { data := #[] }] 103)).alloc (.cells #[.int .i64 0,.int .i64 ln,.int .i64 0,.string { data := #[] }] 103)):=⟨_,rfl⟩
 rw[<- hwa]
 obtain⟨hba,hb2,hb5⟩:=HZ.o wa hwa
 obtain⟨g5,hg5⟩:∃ g5,w.heap.size+1=g5:=⟨_,rfl⟩
 obtain⟨g2,hg2⟩:∃ g2,w.heap.size=g2:=⟨_,rfl⟩
 rw[hg5] at hb5 ⊢
 rw[hg2] at hb2
 try rw[hg2]
 have HBA:=Xj hba
 have HG:Xq (w.heap.size<=g2/\w.heap.size<=g5/\g2≠g5):=Xj (by omega)
 have HB2:=Xj hb2
 have HB5:=Xj hb5
 clear hwa hba hg5 hg2 hb2 hb5
 go_upto_block 5 with fail
 go_wp2_with fail
 go_loopw [13] (λ v13 wr=>∃ n:Nat,n<=2/\v13=.int .i64 n/\Xq (Below w.heap.size w wr)/\Xq (wr.heap[g2]?=some (.cells #[.int .i64 0,.int .i64 0,.int .i64 0,.string { data := #[] }] 103 (0,0)))/\Xq (wr.heap[g5]?=some (.cells #[.int .i64 0,.int .i64 ln,.int .i64 0,.string { data := #[] }] 103 (0,0)))/\Xq (∀ j,n<j->j<=2->¬ (i+j<=s.size/\isS ((s.data.toList.drop i).take j)=true))) (λ v _=>(intOf v).toNat)
 case atStart=>exact⟨2,by omega,rfl,HBA,HB2,HB5,Xj (λ j h1 h2=>absurd h1 (by omega))⟩
 clear HBA HB2 HB5
 obtain⟨n,hn2,rfl,HBA,HB2,HB5,HNO⟩:=hrel
 by_cases hn0:n=0
 ·subst hn0
  have c0:=cell_of_row _ _ 0 _ _ _ HB2.o
  have c1:=cell_of_row _ _ 1 _ _ _ HB2.o
  have c2:=cell_of_row _ _ 2 _ _ _ HB2.o
  have c3:=cell_of_row _ _ 3 _ _ _ HB2.o
  have f0:=frozen_of_row _ g2 0 _ _ HB2.o
  have f1:=frozen_of_row _ g2 1 _ _ HB2.o
  have f2:=frozen_of_row _ g2 2 _ _ HB2.o
  have f3:=frozen_of_row _ g2 3 _ _ HB2.o
  have jl2:=Xv HB2.o
  have hZ:=Yt (v0:=.int .i64 0) (v1:=.int .i64 0) (v2:=.int .i64 0) (v3:=.string { data := #[] }) HB2.o
  have hjw:=Zw (v0:=.int .i64 0) (v1:=.int .i64 0) (v2:=.int .i64 0) (v3:=.string { data := #[] }) HBA.o HG.o.1
  have q0:=cell_of_row _ _ 0 _ _ _ hZ
  have q1:=cell_of_row _ _ 1 _ _ _ hZ
  have q2:=cell_of_row _ _ 2 _ _ _ hZ
  have q3:=cell_of_row _ _ 3 _ _ _ hZ
  have hju:=Xj hjw
  clear hZ hjw
  go_wp2_with fail
  refine bodyPost_ret (v:=.tuple #[tkv 0 0 0 [],.int .i64 0,.bool false]) (by simp[results,Tryz.results82,go_sem,q0,q1,q2,q3]) rfl ?_
  exact⟨hju.o,0,0,0,[],0,false,rfl,.inr ⟨rfl,by
   rw[HNX.o]
   have h2:=HNO.o 2 (by omega) (by omega)
   have h1:=HNO.o 1 (by omega) (by omega)
   rw[if_neg (λ h=>h2 ⟨by have:=HLN.o;omega,h.2⟩)]
   cases hx:isS ((s.data.toList.drop i).take 1)
   ·rfl
   exact absurd ⟨by omega,hx⟩ h1⟩⟩
 by_cases hfit:i+n<=s.size
 ·have hx:=HEX.o n
  obtain⟨t,ht⟩:∃ t,(s.data.toList.drop i).take n=t:=⟨_,rfl⟩
  rw[ht] at hx
  have HT:=Xj ht
  clear ht
  go_wp2_with fail
  refine(Bn t _).mono ?_
  rintro e wC ⟨rfl,hbC⟩
  have h5c:=(hbC.block g5 (Xv HB5.o)).trans HB5.o
  have h2c:=(hbC.block g2 (Xv HB2.o)).trans HB2.o
  have HBC:=Xj (HBA.o.trans (hbC.mono HBA.o.size))
  clear hbC HBA HB2 HB5
  have HB5:=Xj h5c
  have HB2:=Xj h2c
  clear h5c h2c
  cases hS:isS t
  ·have HS:Xq (isS t=false):=Xj hS
   clear hS
   go_wp2_with fail
   go_roundw
   case rel=>exact⟨n-1,by omega,by go_num,HBC,HB2,HB5,Xj (λ j h1 h2=>by
    by_cases e:j=n
    ·subst e;rw[HT.o,HS.o];simp
    exact HNO.o j (by omega) h2)⟩
   simp[intOf];omega
  have HAN:Xq (nxI (s.data.toList.drop i)=(4,0,t,true)):=Xj (by
   rw[HNX.o]
   by_cases e:n=2
   ·subst e
    rw[if_pos ⟨by have:=HLN.o;omega,by rw[HT.o];exact hS⟩,HT.o]
   have e1:n=1:=by omega
   subst e1
   have h2:=HNO.o 2 (by omega) (by omega)
   rw[if_neg (λ h=>h2 ⟨by have:=HLN.o;omega,h.2⟩),HT.o,hS])
  have HTL:Xq (t.length=n):=Xj (by rw[<- HT.o,List.length_take,HLN.o];omega)
  have k0:=cell_of_row _ _ 0 _ _ _ HB5.o
  have k1:=cell_of_row _ _ 1 _ _ _ HB5.o
  have k2:=cell_of_row _ _ 2 _ _ _ HB5.o
  have k3:=cell_of_row _ _ 3 _ _ _ HB5.o
  have j0:=frozen_of_row _ g5 0 _ _ HB5.o
  have j3:=frozen_of_row _ g5 3 _ _ HB5.o
  have jl:=Xv HB5.o
  clear hS
  go_upto_region 24 with fail
  have h5a:=heap_setCell_same _ g5 0 _ _ (.int .i64 4) (heap_setCell_same _ g5 3 _ _ (.string (st t)) HB5.o)
  have h2a:=(heap_setCell_other (wC.setCell ⟨g5,3,none⟩ (.string (st t))) ⟨g5,0,none⟩ g2 (.int .i64 4) (λ e=>HG.o.2.2 e)).trans ((heap_setCell_other wC ⟨g5,3,none⟩ g2 (.string (st t)) (λ e=>HG.o.2.2 e)).trans HB2.o)
  have hbB:=(HBC.o.setCell (p:=⟨g5,3,none⟩) HG.o.2.1 (.string (st t))).setCell (p:=⟨g5,0,none⟩) HG.o.2.1 (.int .i64 4)
  obtain⟨wB,hwB⟩:∃ wB,(wC.setCell ⟨g5,3,none⟩ (.string (st t))).setCell ⟨g5,0,none⟩ (.int .i64 4)=wB:=⟨_,rfl⟩
  rw[hwB] at h5a h2a hbB ⊢
  clear hwB k0 k1 k2 k3 j0 j3 jl
  have k0:=cell_of_row _ _ 0 _ _ _ h5a
  have k1:=cell_of_row _ _ 1 _ _ _ h5a
  have k2:=cell_of_row _ _ 2 _ _ _ h5a
  have k3:=cell_of_row _ _ 3 _ _ _ h5a
  have c0:=cell_of_row _ _ 0 _ _ _ h2a
  have c1:=cell_of_row _ _ 1 _ _ _ h2a
  have c2:=cell_of_row _ _ 2 _ _ _ h2a
  have c3:=cell_of_row _ _ 3 _ _ _ h2a
  have f0:=frozen_of_row _ g2 0 _ _ h2a
  have f1:=frozen_of_row _ g2 1 _ _ h2a
  have f2:=frozen_of_row _ g2 2 _ _ h2a
  have f3:=frozen_of_row _ g2 3 _ _ h2a
  have jl2:=Xv h2a
  have hZ:=Yt (v0:=.int .i64 4) (v1:=.int .i64 ln) (v2:=.int .i64 0) (v3:=.string (st t)) h2a
  have hjw:=Zw (v0:=.int .i64 4) (v1:=.int .i64 ln) (v2:=.int .i64 0) (v3:=.string (st t)) hbB HG.o.1
  have q0:=cell_of_row _ _ 0 _ _ _ hZ
  have q1:=cell_of_row _ _ 1 _ _ _ hZ
  have q2:=cell_of_row _ _ 2 _ _ _ hZ
  have q3:=cell_of_row _ _ 3 _ _ _ hZ
  have hju:=Xj hjw
  clear hZ hjw h5a h2a hbB HB5 HB2
  go_wp2_with fail
  refine bodyPost_ret (v:=.tuple #[tkv 4 ln 0 t,.int .i64 ((i:Int)+n),.bool true]) (by simp[results,Tryz.results82,go_sem,q0,q1,q2,q3]) rfl ?_
  exact⟨hju.o,4,ln,0,t,(i:Int)+n,true,rfl,.inl ⟨rfl,rfl,by rw[HTL.o],HAN.o⟩⟩
 go_wp2_with fail
 go_roundw
 case rel=>exact⟨n-1,by omega,by go_num,HBA,HB2,HB5,Xj (λ j h1 h2=>by
  by_cases e:j=n
  ·subst e;exact λ h=>hfit h.1
  exact HNO.o j (by omega) h2)⟩
 simp[intOf];omega
theorem Bl (s:ByteArray) (i:Nat) (ln:Int) (hs:s.size<=281474976710656) (hi:i<s.size) (w:World):Calls Tryz.prog 82 #[.string s,.int .i64 i,.int .i64 ln] w (Nk (s.data.toList.drop i) i ln w):=by
 obtain⟨b,hb⟩:∃ b,s[i]=b:=⟨_,rfl⟩
 cases h1:lt8 b
 ·cases h2:dg8 b
  ·exact Rr s i ln hs hi b hb h1 h2 w
  exact Pj s i ln hs hi b hb h1 h2 w
 exact Nw s i ln hs hi b hb h1 w
theorem xqf {s:ByteArray} {i:Nat} (h:i<=s.size):(s.extract i s.size).size=s.size-i:=by
 rw[<- st_len,Uv,List.length_drop,st_len]
theorem Br (s:ByteArray) (hs:s.size<=281474976710656) (w:World):Calls Tryz.prog 48 #[.string s] w (Ws s.data.toList w):=by
 by_cases hqn:65536<s.size
 ·have d0:decide ((65536:Int)<(s.size:Int))=true:=by rw[decide_eq_true_iff];omega
  have HBG:=Xj hqn
  clear hqn
  go_enter Tryz.func48,Tryz.ntmps48
  go_wp2_with fail
  refine bodyPost_ret (v:=.tuple #[.slice none 0 0,.int .i64 0,.int .i64 5]) (by simp[results,Tryz.results48,go_sem]) rfl ?_
  exact⟨Below.refl _ _,.inl ⟨HBG.o,rfl⟩⟩
 have d0:decide ((65536:Int)<(s.size:Int))=false:=by rw[decide_eq_false_iff_not];omega
 have hs2:s.size<=65536:=by omega
 have hjg:Xq (∀ (e:Ending) (w':World),Below w.heap.size w w'->(((scan s.data.toList).1=none/\e=.returned (.tuple #[.slice none 0 0,.int .i64 (scan s.data.toList).2,.int .i64 6]))\/(∃ (ts:List Tk) (v:Value),(scan s.data.toList).1=some ts/\e=.returned (.tuple #[v,.int .i64 0,.int .i64 0])/\w'.ownsRow w.heap.size 103 4 v ts.length (Vs ts)))->Ws s.data.toList w e w'):=Xj (λ e w' hb h=>⟨hb,by
  rcases h with h|h
  ·exact .inr (.inl ⟨hs2,h⟩)
  exact .inr (.inr ⟨hs2,h⟩)⟩)
 clear hqn
 obtain⟨i0,hi0,hz0,hz1,hz2⟩:=info_parts Tryz.infoTok
 have HI:=Xj hi0
 have HZ0:=Xj hz0
 have HZ1:=Xj hz1
 have HZ2:=Xj hz2
 clear hi0 hz0 hz1 hz2
 go_enter Tryz.func48,Tryz.ntmps48
 go_upto_block 0 with fail
 go_wp2_with fail
 go_loopw [2,5,6] (λ v2 v5 v6 wr=>∃ (i:Nat) (ln:Int) (acc:List Tk),v6=.int .i64 i/\v5=.int .i64 ln/\i<=s.size/\1<=ln/\ln+s.size<=65537+i/\acc.length+s.size<=65536+i/\Xq (scan s.data.toList=scI (s.extract i s.size).size acc (s.extract i s.size).data.toList ln)/\Xq (Below w.heap.size w wr/\wr.ownsRow w.heap.size 103 4 v2 acc.length (Vs acc))) (λ _ _ v6 _=>s.size-(intOf v6).toNat)
 case atStart=>exact⟨0,1,[],rfl,rfl,by omega,by omega,by omega,by simp;omega,Xj (by rw[Uv,xqf (by omega)];rfl),Xj ⟨Below.refl _ _,World.ownsRow_nil _ _ _ _⟩⟩
 obtain⟨i,ln,acc,rfl,rfl,hi,hl1,hl2,hac,HS,HR⟩:=hrel
 by_cases hlt:i<s.size
 ·obtain⟨b,hb⟩:∃ b,s[i]=b:=⟨_,rfl⟩
  obtain⟨r,hx0⟩:∃ r,(s.extract i s.size).data.toList=b::r:=by
   have hgi:=Qr s i hlt
   rw[hb] at hgi
   obtain⟨hqm,he⟩:=List.getElem?_eq_some_iff.1 hgi
   exact⟨s.data.toList.drop (i+1),by rw[Uv,List.drop_eq_getElem_cons hqm,he]⟩
  have HX0:=Xj hx0
  have HXD:Xq (s.data.toList.drop i=b::r):=Xj (by rw[<- Uv];exact hx0)
  have HSK:Xq (∀ (v l2:Value) (j k:Nat) (d:Int),l2=.int .i64 (ln+d)->v=.int .i64 ((i+k:Nat):Int)->i+k<=s.size->Yy ln b r=.skip k d->0<=d->d<=1->(∃ (i_1:Nat) (ln_1:Int) (acc:List Tk),v=.int .i64 i_1/\l2=.int .i64 ln_1/\i_1<=s.size/\1<=ln_1/\ln_1+s.size<=65537+i_1/\acc.length+s.size<=65536+i_1/\Xq (scan s.data.toList=scI (s.extract i_1 s.size).size acc (s.extract i_1 s.size).data.toList ln_1)/\Xq (Below w.heap.size w wr/\wr.ownsRow w.heap.size 103 4 u2 acc.length (Vs acc)))):=Xj (λ v l2 j k d hl hj hjs hst hd0 hd1=>by
   subst hl hj
   have hk1:=Vt hst
   refine⟨i+k,ln+d,acc,rfl,rfl,by omega,by omega,by omega,by omega,Xj ?_,HR⟩
   rw[HS.o]
   exact Sw HX0.o hst (by rw[Uv,<- List.drop_drop,HXD.o]))
  clear hx0
  by_cases h10:b.toNat=10
  ·have d10:((b.toNat:Int)==10)=true:=by rw[beq_iff_eq];omega
   have HST:Xq (Yy ln b r=.skip 1 1):=Xj (by unfold Yy;rw[if_pos h10])
   clear h10
   go_wp2_with fail
   go_roundw
   case rel=>exact HSK.o _ _ 0 1 1 rfl rfl (by omega) HST.o (by omega) (by omega)
   simp[intOf];omega
  have d10:((b.toNat:Int)==10)=false:=by rw[beq_eq_false_iff_ne];omega
  by_cases h32:b.toNat=32
  ·have d32:((b.toNat:Int)==32)=true:=by rw[beq_iff_eq];omega
   have HST:Xq (Yy ln b r=.skip 1 0):=Xj (by unfold Yy;rw[if_neg h10,if_pos (.inl h32)])
   clear h10 h32
   go_wp2_with fail
   go_roundw
   case rel=>exact HSK.o _ _ 0 1 0 (by simp) rfl (by omega) HST.o (by omega) (by omega)
   simp[intOf];omega
  have d32:((b.toNat:Int)==32)=false:=by rw[beq_eq_false_iff_ne];omega
  by_cases h9:b.toNat=9
  ·have d9:((b.toNat:Int)==9)=true:=by rw[beq_iff_eq];omega
   have HST:Xq (Yy ln b r=.skip 1 0):=Xj (by unfold Yy;rw[if_neg h10,if_pos (.inr h9)])
   clear h10 h32 h9
   go_wp2_with fail
   go_roundw
   case rel=>exact HSK.o _ _ 0 1 0 (by simp) rfl (by omega) HST.o (by omega) (by omega)
   simp[intOf];omega
  have d9:((b.toNat:Int)==9)=false:=by rw[beq_eq_false_iff_ne];omega
  by_cases h35:b.toNat=35
  ·have d35:((b.toNat:Int)==35)=true:=by rw[beq_iff_eq];omega
   have HST:Xq (Yy ln b r=.skip (run nl8 (s.data.toList.drop i)).length 0):=Xj (by unfold Yy;rw[if_neg h10,if_neg (by omega),if_pos h35,HXD.o])
   have HLP:Xq (1<=(run nl8 (s.data.toList.drop i)).length):=Xj (by rw[HXD.o];exact Rv b r h10)
   clear h10 h32 h9 h35
   go_upto_block 3 with fail
   go_wp2_with fail
   go_loopw [6] (λ v6 wq=>∃ k:Nat,i<=k/\k<=s.size/\v6=.int .i64 k/\wq=wr/\Xq (∀ j,i<=j->j<k->∃ b,s.data.toList[j]?=some b/\nl8 b=true)) (λ v6 _=>s.size-(intOf v6).toNat)
   case atStart=>exact⟨i,by omega,by omega,rfl,rfl,Xj (λ j h1 h2=>absurd h2 (by omega))⟩
   obtain⟨k,hk0,hk,rfl,rfl,HA⟩:=hrel
   by_cases hlk:k<s.size
   ·have HGK:=Xj (Qr s k hlk)
    obtain⟨c,hc⟩:∃ c,s[k]=c:=⟨_,rfl⟩
    rw[hc] at HGK
    by_cases hc10:c.toNat=10
    ·have dc:((c.toNat:Int) != 10)=false:=by rw[hc10];rfl
     have HNL:Xq (nl8 c=false):=Xj (by unfold nl8;simp[hc10])
     clear hc10
     have HKK:Xq (i+(run nl8 (s.data.toList.drop i)).length=k):=Xj (Jx hk0 (by rw[st_len];exact hk) HA.o (λ b hb=>by rw[HGK.o] at hb;injection hb with hb;subst hb;exact HNL.o))
     go_wp2_with fail
     go_roundw
     case rel=>exact HSK.o _ _ 0 _ 0 (by simp) (by rw[HKK.o]) (by rw[HKK.o];omega) HST.o (by omega) (by omega)
     simp[intOf];have h1:=HKK.o;have h2:=HLP.o;omega
    have dc:((c.toNat:Int) != 10)=true:=by rw[bne_iff_ne];omega
    have HNL:Xq (nl8 c=true):=Xj (by unfold nl8;simp[hc10])
    clear hc10
    go_wp2_with fail
    go_roundw
    case rel=>exact⟨k+1,by omega,by omega,by go_num,by first|rfl|trivial,Xj (Wm HA.o HGK.o HNL.o)⟩
    simp[intOf];omega
   obtain rfl:k=s.size:=by omega
   have HKK:Xq (i+(run nl8 (s.data.toList.drop i)).length=s.size):=Xj (Jx hk0 (by rw[st_len];exact hk) HA.o (λ b hb=>by
    have:=(List.getElem?_eq_some_iff.1 hb).1
    rw[st_len] at this;omega))
   go_wp2_with fail
   go_roundw
   case rel=>exact HSK.o _ _ 0 _ 0 (by simp) (by rw[HKK.o]) (by rw[HKK.o];omega) HST.o (by omega) (by omega)
   simp[intOf];have h1:=HKK.o;have h2:=HLP.o;omega
  have d35:((b.toNat:Int)==35)=false:=by rw[beq_eq_false_iff_ne];omega
  have HST:Xq (Yy ln b r=if (nxI (b::r)).2.2.2=true then .tok ⟨(nxI (b::r)).1,ln,(nxI (b::r)).2.1,(nxI (b::r)).2.2.1⟩ else .bad):=Xj (by unfold Yy;rw[if_neg h10,if_neg (by omega),if_neg h35])
  clear h10 h32 h9 h35
  go_wp2_with fail
  refine(Bl s i ln (by omega) hlt _).mono ?_
  rintro e w1 ⟨hb1,k,x,v,t,m,ok,rfl,hnx⟩
  rw[HXD.o] at hnx
  have hsz:=HR.o.1.size
  have HB1:=Xj (HR.o.1.trans (hb1.mono HR.o.1.size))
  have HO1:=Xj (Kc HR.o.2 hb1)
  clear hb1
  cases ok
  ·have hqg:Xq (scan s.data.toList=(none,ln)):=Xj (by
    rw[HS.o]
    refine Fx HX0.o ?_
    rw[HST.o,if_neg]
    rcases hnx with h|⟨_,h⟩
    ·exact absurd h.1 (by simp)
    rw[h];simp)
   clear hnx
   go_wp2_with fail
   refine bodyPost_ret (v:=.tuple #[.slice none 0 0,.int .i64 ln,.int .i64 6]) (by simp[results,Tryz.results48,go_sem]) rfl ?_
   exact hjg.o _ _ (HB1.o.alloc HB1.o.size _) (.inl ⟨by rw[hqg.o],by rw[hqg.o]⟩)
  obtain⟨hxl,hm,hqt⟩:x=ln/\m=(i:Int)+t.length/\nxI (b::r)=(k,v,t,true):=by
   rcases hnx with h|⟨h,_⟩
   ·exact h.2
   cases h
  subst hxl
  have hpb:Xq (Yy x b r=.tok ⟨k,x,v,t⟩):=Xj (by rw[HST.o,hqt];simp)
  have ht1:1<=t.length:=by have:=Gb (b:=b) (r:=r) (by rw[hqt]);rw[hqt] at this;exact this
  have ht2:i+t.length<=s.size:=by have:=Ij (b::r);rw[hqt,<- HXD.o,List.length_drop,st_len] at this;simp only at this;omega
  subst hm
  clear hnx hqt
  have hym:=HB1.o.size
  go_upto_region 9 with fail
  obtain⟨w2,hw2⟩:∃ w2,w2=(w1.alloc (.cells #[.int .i64 k,.int .i64 x,.int .i64 v,.string (st t)] 103)):=⟨_,rfl⟩
  rw[<- hw2]
  have hbb:Below w1.heap.size w1 w2:=by rw[hw2];exact(Below.refl _ _).alloc (Nat.le_refl _) _
  have hqv:w2.heap[w1.heap.size]?=some (.cells #[.int .i64 k,.int .i64 x,.int .i64 v,.string (st t)] 103 (0,0)):=by rw[hw2];exact heap_alloc_new w1 _
  have HB2:=Xj (HB1.o.trans (hbb.mono HB1.o.size))
  have HO2:=Xj (Kc HO1.o hbb)
  have HNG:Xq (∀ q,u2.ownBlock=some q->q≠w1.heap.size):=Xj (λ q hq=>by have:=(HO1.o.lt q hq).2;omega)
  have HBL:=Xj hqv
  have c0:=cell_of_row _ _ 0 _ _ _ hqv
  have c1:=cell_of_row _ _ 1 _ _ _ hqv
  have c2:=cell_of_row _ _ 2 _ _ _ hqv
  have c3:=cell_of_row _ _ 3 _ _ _ hqv
  have cl:=Xv hqv
  obtain⟨g5,hg5⟩:∃ g5,w1.heap.size=g5:=⟨_,rfl⟩
  rw[hg5] at HNG HBL c0 c1 c2 c3 cl ⊢
  clear hw2 hbb hqv hg5 hym
  have HOA:=Xj (HO2.o.alloc (.cells #[.int .i64 k,.int .i64 x,.int .i64 v,.string (st t)] 103))
  have HBA:=Xj (HB2.o.alloc HB2.o.size (.cells #[.int .i64 k,.int .i64 x,.int .i64 v,.string (st t)] 103))
  have hvu:=HB2.o.size
  clear HB1 HO1
  clear w1
  go_wp2_with (at_builtin;refine wpList_append_own _ rfl _ _ _ rfl w.heap.size 103 i0 _ 4 40 Tryz.underlying86 HI.o HZ0.o HZ1.o HZ2.o rfl (by omega) _ _ _ rfl HOA.o ⟨w2.heap.size,0,none⟩ 1 1 [.int .i64 k,.int .i64 x,.int .i64 v,.string (st t)] rfl rfl (World.news_of_block (cs := #[.int .i64 k,.int .i64 x,.int .i64 v,.string (st t)]) (t:=103) (fr:=(0,0)) (heap_alloc_new w2 _)) (by simp[Value.oneCell']) (by unfold maxLen;omega) (by omega) (by simp;omega) ?_;intro v' w9 hown9 hgrow9 _;have HO9:=Xj hown9;have HG9:=Xj hgrow9;clear hown9 hgrow9)
  have HB9:=Xj (HBA.o.grown HG9.o HBA.o.size (λ k hk=>(HOA.o.lt k hk).1))
  go_roundw
  case rel =>
   refine⟨i+t.length,x,acc++[⟨k,x,v,t⟩],by simp,rfl,by omega,by omega,by omega,by simp;omega,Xj ?_,Xj ⟨HB9.o,?_⟩⟩
   ·rw[HS.o]
    exact Fz HX0.o hpb.o ht1 (by rw[Uv,<- List.drop_drop,HXD.o])
   have:=HO9.o
   rw[<- Kp]
   simpa using this
  simp[intOf];omega
 obtain rfl:i=s.size:=by omega
 have HE:Xq (scan s.data.toList=(some (acc++[⟨0,ln,0,[]⟩]),0)):=Xj (by rw[HS.o,Uv,List.drop_eq_nil_of_le (by rw[st_len];exact Nat.le_refl _),Vu])
 have HOA:=Xj (HR.o.2.alloc (.cells #[.int .i64 0,.int .i64 ln,.int .i64 0,.string ⟨#[]⟩] 103))
 have hbA:=HR.o.1.alloc HR.o.1.size (.cells #[.int .i64 0,.int .i64 ln,.int .i64 0,.string ⟨#[]⟩] 103)
 have HBA:=Xj hbA
 have hsz:=HR.o.1.size
 clear hbA
 go_wp2_with (at_builtin;refine wpList_append_own _ rfl _ _ _ rfl w.heap.size 103 i0 _ 4 40 Tryz.underlying86 HI.o HZ0.o HZ1.o HZ2.o rfl (by omega) _ _ _ rfl HOA.o ⟨wr.heap.size,0,none⟩ 1 1 [.int .i64 0,.int .i64 ln,.int .i64 0,.string ⟨#[]⟩] rfl rfl (World.news_of_block (cs := #[.int .i64 0,.int .i64 ln,.int .i64 0,.string ⟨#[]⟩]) (t:=103) (fr:=(0,0)) (heap_alloc_new wr _)) (by simp[Value.oneCell']) (by unfold maxLen;omega) (by omega) (by simp;omega) ?_;intro v' w9 hown9 hgrow9 _;have HO9:=Xj hown9;have HG9:=Xj hgrow9;clear hown9 hgrow9)
 refine bodyPost_ret (v:=.tuple #[v',.int .i64 0,.int .i64 0]) (by simp[results,Tryz.results48,go_sem]) rfl ?_
 refine hjg.o _ _ (HBA.o.grown HG9.o HBA.o.size (λ k hk=>(HOA.o.lt k hk).1)) (.inr ⟨acc++[⟨0,ln,0,[]⟩],v',by rw[HE.o],rfl,?_⟩)
 have:=HO9.o
 rw[<- Kp]
 simpa using this
structure RAt (w:World) (K:PC) (at_:Nat) (bad:Bool) (rest:List Tk):Prop where
 row:w.heap[K.g]?=some (.cells #[.slice K.al K.ts.length K.cl,.int .i64 (at_:Int),.bool bad,.int .i64 K.wr] 91 (0,0))
 tk:Tks w K.al K.ts
 ne:∀ x,K.al=some x->x.block≠K.g
 dr:K.ts.drop at_=rest
 en:Jd rest
 cap:K.ts.length<=K.cl/\K.cl<=maxLen
 n:K.ts.length<=100000
theorem RAt.lt {w:World} {K:PC} {at_:Nat} {bad:Bool} {rest:List Tk} (h:RAt w K at_ bad rest):at_<K.ts.length/\K.ts.length=at_+rest.length:=by
 obtain⟨x,r,e⟩:=h.en.cons
 have h1:=h.dr
 rw[e] at h1
 have h2:=congrArg List.length h1
 rw[List.length_drop,List.length_cons] at h2
 rw[e,List.length_cons]
 omega
theorem RAt.glt {w:World} {K:PC} {at_:Nat} {bad:Bool} {rest:List Tk} (h:RAt w K at_ bad rest):K.g<w.heap.size:=Xv h.row
theorem RAt.grown {w w':World} {K:PC} {at_:Nat} {bad:Bool} {rest:List Tk} {r:Option Nat} (h:RAt w K at_ bad rest) (hg:w.grownBy w' r) (hr:∀ k,r=some k->k≠K.g/\∀ x,K.al=some x->x.block≠k):RAt w' K at_ bad rest :=
 {h with
  row:=(hg.block K.g h.glt (λ e=>(hr K.g e.symm).1 rfl)).trans h.row
  tk:=λ j x hj=>by
   obtain⟨b,off,e,hb,h0,h1,h2,h3⟩:=h.tk j x hj
   have key:w'.heap[b]?=w.heap[b]?:=hg.block b hb (λ e2=>(hr b e2.symm).2 _ e rfl)
   have kc:∀ o,w'.cell? ⟨b,o,none⟩=w.cell? ⟨b,o,none⟩:=λ o=>World.cell?_of_block (a:=⟨b,o,none⟩) key
   exact⟨b,off,e,by have:=hg.size;omega,(kc _).trans h0,(kc _).trans h1,(kc _).trans h2,(kc _).trans h3⟩ }
theorem RAt.below {w w':World} {K:PC} {at_:Nat} {bad:Bool} {rest:List Tk} (h:RAt w K at_ bad rest) (hb:Below w.heap.size w w'):RAt w' K at_ bad rest:=h.grown (Xm hb none) (λ k e=>by cases e)
theorem RAt.tok {w:World} {K:PC} {at_:Nat} {bad:Bool} {rest:List Tk} (h:RAt w K at_ bad rest):∃ x r b off,rest=x::r/\K.al=some ⟨b,off,none⟩/\b<w.heap.size/\b≠K.g /\
  w.cell? ⟨b,off+at_*4,none⟩=some (.int .i64 x.k)/\w.cell? ⟨b,off+at_*4+1,none⟩=some (.int .i64 x.n)/\w.cell? ⟨b,off+at_*4+2,none⟩=some (.int .i64 x.v)/\w.cell? ⟨b,off+at_*4+3,none⟩=some (.string (st x.t)):=by
 obtain⟨x,r,e⟩:=h.en.cons
 have h1:=h.dr
 rw[e] at h1
 have hx:K.ts[at_]?=some x:=by
  have:=congrArg (λ l=>l[0]?) h1
  simpa using this
 obtain⟨b,off,e2,hb,h0,h2,h3,h4⟩:=h.tk at_ x hx
 exact⟨x,r,b,off,e,e2,hb,h.ne _ e2,h0,h2,h3,h4⟩
theorem RAt.step {w:World} {K:PC} {at_:Nat} {bad:Bool} {rest:List Tk} (h:RAt w K at_ bad rest) (hk:kOf rest≠0):RAt (w.setCell ⟨K.g,1,none⟩ (.int .i64 ((at_:Int)+1))) K (at_+1) bad rest.tail :=
 have hjf:=Xu w K.g 1 (.int .i64 ((at_:Int)+1))
 {row:=heap_setCell_same w K.g 1 _ _ _ h.row
  tk:=λ j x hj=>by
   obtain⟨b,off,e,hb,h0,h1,h2,h3⟩:=h.tk j x hj
   have key:(w.setCell ⟨K.g,1,none⟩ (.int .i64 ((at_:Int)+1))).heap[b]?=w.heap[b]?:=hjf.block b hb (λ e2=>by injection e2 with e2;exact h.ne _ e e2)
   have kc:∀ o,(w.setCell ⟨K.g,1,none⟩ (.int .i64 ((at_:Int)+1))).cell? ⟨b,o,none⟩=w.cell? ⟨b,o,none⟩:=λ o=>World.cell?_of_block (a:=⟨b,o,none⟩) key
   exact⟨b,off,e,by have:=hjf.size;omega,(kc _).trans h0,(kc _).trans h1,(kc _).trans h2,(kc _).trans h3⟩
  ne:=h.ne
  dr:=by rw[<- h.dr,List.tail_drop]
  en:=h.en.kOf hk
  cap:=h.cap
  n:=h.n }
theorem RAt.cells {w:World} {K:PC} {at_:Nat} {bad:Bool} {rest:List Tk} (h:RAt w K at_ bad rest):w.cell? ⟨K.g,0,none⟩=some (.slice K.al K.ts.length K.cl)/\w.cell? ⟨K.g,1,none⟩=some (.int .i64 (at_:Int))/\w.cell? ⟨K.g,2,none⟩=some (.bool bad) /\
  w.frozen? ⟨K.g,1,none⟩=false/\w.frozen? ⟨K.g,2,none⟩=false/\K.g<w.heap.size :=
 ⟨cell_of_row _ _ 0 _ _ _ h.row,cell_of_row _ _ 1 _ _ _ h.row,cell_of_row _ _ 2 _ _ _ h.row,frozen_of_row _ _ 1 _ _ h.row,frozen_of_row _ _ 2 _ _ h.row,h.glt⟩
theorem xjt (K:PC) (at_:Nat) (bad:Bool) (rest:List Tk) (w:World) (h:RAt w K at_ bad rest):Calls Tryz.prog 85 #[.pointer (some ⟨K.g,0,none⟩)] w λ e w'=>e=.returned (Pm (hdT rest))/\Below w.heap.size w w':=by
 have hlt:=h.lt.1
 have hjb:=h.cap
 have hn:=h.n
 have hr:=heap_alloc_new w (.cells #[.int .i64 0,.int .i64 0,.int .i64 0,.string ⟨#[]⟩] 103)
 have hbA:=Xw w (.cells #[.int .i64 0,.int .i64 0,.int .i64 0,.string ⟨#[]⟩] 103)
 have hzn:=h.glt
 obtain⟨x,r,b,off,rfl,hal,hb,hbg,t0,t1,t2,t3⟩:=h.tok
 obtain⟨p0,p1,-,-,-,-⟩:=h.cells
 rw[hal] at p0
 have q0:=(hbA.cell (p:=⟨K.g,0,none⟩) hzn).trans p0
 have q1:=(hbA.cell (p:=⟨K.g,1,none⟩) hzn).trans p1
 have s0:=(hbA.cell (p:=⟨b,off+at_*4,none⟩) hb).trans t0
 have s1:=(hbA.cell (p:=⟨b,off+at_*4+1,none⟩) hb).trans t1
 have s2:=(hbA.cell (p:=⟨b,off+at_*4+2,none⟩) hb).trans t2
 have s3:=(hbA.cell (p:=⟨b,off+at_*4+3,none⟩) hb).trans t3
 obtain⟨k,n,v,tt⟩:=x
 dsimp only at *
 obtain⟨g,hg⟩:∃ g,K.g=g:=⟨_,rfl⟩
 obtain⟨N,hN⟩:∃ N,K.ts.length=N:=⟨_,rfl⟩
 obtain⟨cl,hcl⟩:∃ c,K.cl=c:=⟨_,rfl⟩
 rw[hN,hcl] at hjb q0
 rw[hN] at hlt hn
 rw[hg] at q0 q1 hzn hbg ⊢
 have hcl2:cl<=9223372036854775807:=by have:=hjb.2;unfold maxLen at this;omega
 have hqm:(at_:Int)<(N:Int):=by omega
 clear h hal p0 p1 t0 t1 t2 t3 hN hcl hg
 go_enter Tryz.func85,Tryz.ntmps85
 go_upto_region 1 with fail
 obtain⟨w1,hw1⟩:∃ W,w.alloc (.cells #[.int .i64 0,.int .i64 0,.int .i64 0,.string ⟨#[]⟩] 103)=W:=⟨_,rfl⟩
 obtain⟨gr,hgr⟩:∃ x,w.heap.size=x:=⟨_,rfl⟩
 rw[hw1] at hr hbA q0 q1 s0 s1 s2 s3 ⊢
 rw[hgr] at hr hzn hb
 (try rw[hgr])
 have HB:=Xj (And.intro hbA hgr)
 have HR:=Xj hr
 have n1:gr≠g:=by omega
 have n2:gr≠b:=by omega
 clear hw1 hgr hbA hr
 refine wp_region_held_drew (S:=(λ w'=>w'.cell? ⟨g,0,none⟩=some (.slice (some ⟨b,off,none⟩) N cl)/\w'.cell? ⟨g,1,none⟩=some (.int .i64 (at_:Int))/\w'.cell? ⟨b,off+at_*4,none⟩=some (.int .i64 k)/\w'.cell? ⟨b,off+at_*4+1,none⟩=some (.int .i64 n)/\w'.cell? ⟨b,off+at_*4+2,none⟩=some (.int .i64 v)/\w'.cell? ⟨b,off+at_*4+3,none⟩=some (.string (st tt)))) (by kernel_rfl) ⟨q0,q1,s0,s1,s2,s3⟩ (λ hJ=>?_)
 refine tkH 0 3 ?_
 refine tkH 1 4 ?_
 refine tkH 2 5 ?_
 refine tkH 3 6 ?_
 refine tkH 4 7 ?_
 refine tkH 5 8 ?_
 refine tkH 6 9 ?_
 refine tkH 7 10 ?_
 refine tkH 8 11 ?_
 refine tkH 9 12 ?_
 refine rdH 10 λ K0 hK=>?_
 have c0:=cell_of_row _ _ 0 _ _ _ HR.o
 have c1:=cell_of_row _ _ 1 _ _ _ HR.o
 have c2:=cell_of_row _ _ 2 _ _ _ HR.o
 have c3:=cell_of_row _ _ 3 _ _ _ HR.o
 have f0:=frozen_of_row _ gr 0 _ _ HR.o
 have f1:=frozen_of_row _ gr 1 _ _ HR.o
 have f2:=frozen_of_row _ gr 2 _ _ HR.o
 have f3:=frozen_of_row _ gr 3 _ _ HR.o
 have jl:=Xv HR.o
 go_simp
 refine goH hK ⟨Xs n1 hJ.1,Xs n1 hJ.2.1,Xs n2 hJ.2.2.1,Xs n2 hJ.2.2.2.1,Xs n2 hJ.2.2.2.2.1,Xs n2 hJ.2.2.2.2.2⟩ λ hJ=>?_
 clear hK K0
 refine wpAnyH_done (by kernel_rfl) ?_ _
 refine Xz ?_
 have hZ:=Yt (w:=w1) (v0:=.int .i64 k) (v1:=.int .i64 n) (v2:=.int .i64 v) (v3:=.string (st tt)) HR.o
 have hjw:=(Zw (w:=w1) (B:=w.heap.size) (w0:=w) (b:=gr) (v0:=.int .i64 k) (v1:=.int .i64 n) (v2:=.int .i64 v) (v3:=.string (st tt)) HB.o.1 (by rw[HB.o.2];exact Nat.le_refl _)).drew
 have hZ:(set4 w1 gr (.int .i64 k) (.int .i64 n) (.int .i64 v) (.string (st tt))).drew.heap[gr]?=some (.cells #[.int .i64 k,.int .i64 n,.int .i64 v,.string (st tt)] 103 (0,0)):=hZ
 have d0:=cell_of_row _ _ 0 _ _ _ hZ
 have d1:=cell_of_row _ _ 1 _ _ _ hZ
 have d2:=cell_of_row _ _ 2 _ _ _ hZ
 have d3:=cell_of_row _ _ 3 _ _ _ hZ
 have hju:=Xj hjw
 obtain⟨wn,hwn⟩:∃ wn,(set4 w1 gr (.int .i64 k) (.int .i64 n) (.int .i64 v) (.string (st tt))).drew=wn:=⟨_,rfl⟩
 have hjv:=hwn
 unfold set4 at hjv
 rw[hjv]
 rw[hwn] at hju d0 d1 d2 d3
 clear hwn hjv hZ hjw c0 c1 c2 c3 f0 f1 f2 f3 jl hJ q0 q1 s0 s1 s2 s3
 go_wp2_with fail
 refine bodyPost_ret (v:=.agg #[.int .i64 k,.int .i64 n,.int .i64 v,.string (st tt)]) (by simp[results,Tryz.results85,go_sem,d0,d1,d2,d3]) rfl ?_
 exact⟨rfl,hju.o⟩
theorem Vm (K:PC) (at_:Nat) (bad:Bool) (k n v:Int) (tt:Bt) (r:List Tk) (w:World) (h:RAt w K at_ bad (⟨k,n,v,tt⟩::r)):Calls Tryz.prog 85 #[.pointer (some ⟨K.g,0,none⟩)] w λ e w'=>e=.returned (.agg #[.int .i64 k,.int .i64 n,.int .i64 v,.string (st tt)])/\Below w.heap.size w w':=xjt K at_ bad _ w h
theorem Wc (K:PC) (at_:Nat) (bad:Bool) (rest:List Tk) (t:Bt) (w:World) (h:RAt w K at_ bad rest):Calls Tryz.prog 84 #[.pointer (some ⟨K.g,0,none⟩),.string (st t)] w λ e w'=>e=.returned (.bool (!bad&&isT t rest))/\Below w.heap.size w w':=by
 obtain⟨⟨k,n,v,tt⟩,r,rfl⟩:=h.en.cons
 have HP:=Xj h
 clear h
 go_enter Tryz.func84,Tryz.ntmps84
 go_wp2_with fail
 refine(Vm K at_ bad k n v tt r _ HP.o).mono ?_
 rintro e w2 ⟨rfl,hb2⟩
 have hb3:=Xw w2 (.cells #[.int .i64 k,.int .i64 n,.int .i64 v,.string (st tt)] 103)
 have hr:=heap_alloc_new w2 (.cells #[.int .i64 k,.int .i64 n,.int .i64 v,.string (st tt)] 103)
 go_upto_region 2 with fail
 obtain⟨w3,hw3⟩:∃ W,w2.alloc (.cells #[.int .i64 k,.int .i64 n,.int .i64 v,.string (st tt)] 103)=W:=⟨_,rfl⟩
 obtain⟨gr,hgr⟩:∃ x,w2.heap.size=x:=⟨_,rfl⟩
 rw[hw3] at hr hb3 ⊢
 rw[hgr] at hr
 (try rw[hgr])
 have HB:=Xj (hb2.trans (hb3.mono hb2.size))
 have c0:=cell_of_row _ _ 0 _ _ _ hr
 have c3:=cell_of_row _ _ 3 _ _ _ hr
 have hl:=Xv hr
 obtain⟨-,-,p2,-,-,hlp⟩:=(HP.o.below HB.o).cells
 clear hw3 hgr hr hb3 hb2
 cases bad
 ·cases h3:(k==3)
  ·cases h4:(k==4)
   ·have HE:Xq (isT t ({ k:=k,n:=n,v:=v,t:=tt }::r)=false):=Xj (by simp[isT,h3,h4])
    go_wp2_with fail
    go_ret
    exact⟨by rw[HE.o];try rfl,HB.o⟩
   have HE:Xq (isT t ({ k:=k,n:=n,v:=v,t:=tt }::r)=(tt==t)):=Xj (by simp[isT,h3,h4])
   go_wp2_with fail
   go_ret
   exact⟨by rw[HE.o];try rfl,HB.o⟩
  have HE:Xq (isT t ({ k:=k,n:=n,v:=v,t:=tt }::r)=(tt==t)):=Xj (by simp[isT,h3])
  go_wp2_with fail
  go_ret
  exact⟨by rw[HE.o];try rfl,HB.o⟩
 go_wp2_with fail
 go_ret
 exact⟨by try rfl,HB.o⟩
def xvv (K:PC) (at_:Nat) (bad:Bool) (rest:List Tk) (t:Bt) (w:World) (e:Ending) (w':World):Prop :=
 ∃ at2 rest2,e=.returned (.bool (!bad&&isT t rest))/\RAt w' K at2 bad rest2/\w.grownBy w' (some K.g)/\((bad=false/\isT t rest=true/\at2=at_+1/\rest2=rest.tail)\/((!bad&&isT t rest)=false/\at2=at_/\rest2=rest))
theorem Jv (K:PC) (at_:Nat) (bad:Bool) (rest:List Tk) (t:Bt) (w:World) (h:RAt w K at_ bad rest):Calls Tryz.prog 102 #[.pointer (some ⟨K.g,0,none⟩),.string (st t)] w (xvv K at_ bad rest t w):=by
 have HP:=Xj h
 clear h
 go_enter Tryz.func102,Tryz.ntmps102
 go_wp2_with fail
 refine(Wc K at_ bad rest t _ HP.o).mono ?_
 rintro e w2 ⟨rfl,hb2⟩
 have HP2:=Xj (HP.o.below hb2)
 have HG2:=Xj (Xm hb2 (some K.g))
 clear hb2
 cases hT:(!bad&&isT t rest)
 ·have HT:=Xj hT
  clear hT
  go_wp2_with fail
  go_ret
  exact⟨at_,rest,by rw[HT.o];rfl,HP2.o,HG2.o,.inr ⟨HT.o,rfl,rfl⟩⟩
 obtain⟨rfl,hT2⟩:bad=false/\isT t rest=true:=by simpa using hT
 have HT:=Xj hT2
 obtain⟨-,p1,-,f1,-,hl⟩:=HP2.o.cells
 have hn:=HP2.o.n
 have hlt:=HP2.o.lt.1
 have hw1:IntKind.i64.wrap ((at_:Int)+1)=(at_:Int)+1:=by rw[IntKind.wrap_i64];omega
 have HF:=Xj (And.intro (HP2.o.step (Qx HT.o).2.2.1) (Xp HG2.o (Xu w2 K.g 1 (.int .i64 ((at_:Int)+1)))))
 clear hn hlt hT hT2
 go_wp2_with fail
 go_ret
 exact⟨at_+1,rest.tail,by rw[HT.o];rfl,HF.o.1,HF.o.2,.inl ⟨rfl,HT.o,rfl,rfl⟩⟩
theorem RAt.setBad {w:World} {K:PC} {at_:Nat} {bad:Bool} {rest:List Tk} (h:RAt w K at_ bad rest):RAt (w.setCell ⟨K.g,2,none⟩ (.bool true)) K at_ true rest :=
 have hjf:=Xu w K.g 2 (.bool true)
 {row:=heap_setCell_same w K.g 2 _ _ _ h.row
  tk:=λ j x hj=>by
   obtain⟨b,off,e,hb,h0,h1,h2,h3⟩:=h.tk j x hj
   have key:(w.setCell ⟨K.g,2,none⟩ (.bool true)).heap[b]?=w.heap[b]?:=hjf.block b hb (λ e2=>by injection e2 with e2;exact h.ne _ e e2)
   have kc:∀ o,(w.setCell ⟨K.g,2,none⟩ (.bool true)).cell? ⟨b,o,none⟩=w.cell? ⟨b,o,none⟩:=λ o=>World.cell?_of_block (a:=⟨b,o,none⟩) key
   exact⟨b,off,e,by have:=hjf.size;omega,(kc _).trans h0,(kc _).trans h1,(kc _).trans h2,(kc _).trans h3⟩
  ne:=h.ne
  dr:=h.dr
  en:=h.en
  cap:=h.cap
  n:=h.n }
def xvz (K:PC) (at_:Nat) (bad:Bool) (rest:List Tk) (t:Bt) (w:World) (e:Ending) (w':World):Prop :=
 ∃ at2 bad2 rest2,e=.returned (.tuple #[])/\RAt w' K at2 bad2 rest2/\w.grownBy w' (some K.g)/\((bad=false/\bad2=false/\isT t rest=true/\at2=at_+1/\rest2=rest.tail)\/((!bad&&isT t rest)=false/\bad2=true/\at2=at_/\rest2=rest))
theorem Un (K:PC) (at_:Nat) (bad:Bool) (rest:List Tk) (t:Bt) (w:World) (h:RAt w K at_ bad rest):Calls Tryz.prog 104 #[.pointer (some ⟨K.g,0,none⟩),.string (st t)] w (xvz K at_ bad rest t w):=by
 have HP:=Xj h
 clear h
 go_enter Tryz.func104,Tryz.ntmps104
 go_wp2_with fail
 refine(Jv K at_ bad rest t _ HP.o).mono ?_
 rintro e w2 ⟨at2,rest2,rfl,hp2,hg2,hc⟩
 have HP2:=Xj hp2
 have HG2:=Xj hg2
 clear hp2 hg2
 rcases hc with⟨rfl,hT,rfl,rfl⟩|⟨hT,rfl,rfl⟩
 ·have HT:=Xj hT
  (try rw[hT])
  clear hT
  go_wp2_with fail
  refine bodyPost_end (results_none rfl _ _ _) rfl ?_
  exact⟨_,false,_,rfl,HP2.o,HG2.o,.inl ⟨rfl,rfl,HT.o,rfl,rfl⟩⟩
 have HT:=Xj hT
 (try rw[hT])
 clear hT
 obtain⟨-,-,p2,-,f2,hl⟩:=HP2.o.cells
 have HF:=Xj (And.intro HP2.o.setBad (Xp HG2.o (Xu w2 K.g 2 (.bool true))))
 go_wp2_with fail
 refine bodyPost_end (results_none rfl _ _ _) rfl ?_
 exact⟨_,true,_,rfl,HF.o.1,HF.o.2,.inr ⟨HT.o,rfl,rfl,rfl⟩⟩
def xvp (K:PC) (at_:Nat) (bad:Bool) (rest:List Tk) (k:Int) (w:World) (e:Ending) (w':World):Prop :=
 ∃ at2 bad2 rest2,RAt w' K at2 bad2 rest2/\w.grownBy w' (some K.g)/\((bad=false/\bad2=false/\kOf rest=k/\e=.returned (Pm (hdT rest))/\at2=at_+1/\rest2=rest.tail)\/((bad=true\/kOf rest≠k)/\bad2=true/\e=.returned (Pm ⟨0,0,0,[]⟩)/\at2=at_/\rest2=rest))
theorem RAt.sc1 {w:World} {K:PC} {at_:Nat} {bad:Bool} {rest:List Tk} (h:RAt w K at_ bad rest) {b o:Nat} (hb:b≠K.g/\∀ x,K.al=some x->x.block≠b) (v:Value):RAt (w.setCell ⟨b,o,none⟩ v) K at_ bad rest :=
 h.grown (Xu w b o v) (λ k e=>by injection e with e;subst e;exact hb)
theorem RAt.s4 {w:World} {K:PC} {at_:Nat} {bad:Bool} {rest:List Tk} (h:RAt w K at_ bad rest) {b:Nat} (hb:b≠K.g/\∀ x,K.al=some x->x.block≠b) (v0 v1 v2 v3:Value):RAt ((((w.setCell ⟨b,0,none⟩ v0).setCell ⟨b,1,none⟩ v1).setCell ⟨b,2,none⟩ v2).setCell ⟨b,3,none⟩ v3) K at_ bad rest :=
 (((h.sc1 hb v0).sc1 hb v1).sc1 hb v2).sc1 hb v3
theorem My {w0 w:World} {b:Nat} {row:Option Nat} {v0 v1 v2 v3:Value} (h:w0.grownBy w row) (hb:w0.heap.size<=b):w0.grownBy ((((w.setCell ⟨b,0,none⟩ v0).setCell ⟨b,1,none⟩ v1).setCell ⟨b,2,none⟩ v2).setCell ⟨b,3,none⟩ v3) row :=
 Yu (p:=⟨b,3,none⟩) (Yu (p:=⟨b,2,none⟩) (Yu (p:=⟨b,1,none⟩) (Yu (p:=⟨b,0,none⟩) h hb) hb) hb) hb
theorem Lt.froz {wx:World} {b:Nat} {x:Tk} (k:Lt wx b x):wx.frozen? ⟨b,0,none⟩=false/\wx.frozen? ⟨b,1,none⟩=false/\wx.frozen? ⟨b,2,none⟩=false/\wx.frozen? ⟨b,3,none⟩=false :=
 ⟨frozen_of_row _ b 0 _ _ k,frozen_of_row _ b 1 _ _ k,frozen_of_row _ b 2 _ _ k,frozen_of_row _ b 3 _ _ k⟩
theorem Lt.s4 {wx:World} {b:Nat} {x:Tk} (k:Lt wx b x) (y:Tk):Lt ((((wx.setCell ⟨b,0,none⟩ (.int .i64 y.k)).setCell ⟨b,1,none⟩ (.int .i64 y.n)).setCell ⟨b,2,none⟩ (.int .i64 y.v)).setCell ⟨b,3,none⟩ (.string (st y.t))) b y :=
 heap_setCell_same _ b 3 _ _ _ (heap_setCell_same _ b 2 _ _ _ (heap_setCell_same _ b 1 _ _ _ (heap_setCell_same _ b 0 _ _ _ k)))
theorem Iy (K:PC) (at_:Nat) (bad:Bool) (rest:List Tk) (k:Int) (w:World) (h:RAt w K at_ bad rest) (hk0:k≠0):Calls Tryz.prog 148 #[.pointer (some ⟨K.g,0,none⟩),.int .i64 k] w (xvp K at_ bad rest k w):=by
 obtain⟨⟨rk,rn,rv,rt⟩,r,hxr⟩:=h.en.cons
 have HX:=Xj hxr
 have HAL:Xq (K.g<w.heap.size/\∀ x,K.al=some x->x.block≠w.heap.size):=Xj ⟨h.glt,λ x hx=>by
  obtain⟨b,off,e,hb,_⟩:=h.tk at_ ⟨rk,rn,rv,rt⟩ (by have h1:=h.dr;rw[hxr] at h1;have:=congrArg (λ l=>l[0]?) h1;simpa using this)
  rw[e] at hx
  injection hx with hx
  subst hx
  show b≠_
  omega⟩
 have HP:=Xj (h.below (Xw w (.cells #[.int .i64 0,.int .i64 0,.int .i64 0,.string ⟨#[]⟩] 103)))
 have HR1:=Xj (Lt.new w ⟨0,0,0,[]⟩)
 have HG1:=Xj (Xm (Xw w (.cells #[.int .i64 0,.int .i64 0,.int .i64 0,.string ⟨#[]⟩] 103)) (some K.g))
 have HK0:=Xj hk0
 clear h hxr hk0
 go_enter Tryz.func148,Tryz.ntmps148
 go_upto_region 1 with fail
 obtain⟨w1,hw1⟩:∃ W,w.alloc (.cells #[.int .i64 0,.int .i64 0,.int .i64 0,.string ⟨#[]⟩] 103)=W:=⟨_,rfl⟩
 obtain⟨gr,hgr⟩:∃ x,w.heap.size=x:=⟨_,rfl⟩
 have HR1':Xq (Lt w1 gr ⟨0,0,0,[]⟩):=Xj (by rw[<- hw1,<- hgr];exact HR1.o)
 rw[hw1] at HP HG1 ⊢
 rw[hgr] at HAL
 (try rw[hgr])
 have HGR:=Xj hgr
 clear hw1 hgr HR1
 go_wp2_with fail
 refine(Vm K at_ bad rk rn rv rt r _ (HX.o▸HP.o)).mono ?_
 rintro e w2 ⟨rfl,hb2⟩
 have hb3:=Xw w2 (.cells #[.int .i64 rk,.int .i64 rn,.int .i64 rv,.string (st rt)] 103)
 have HB:=Xj (hb2.trans (hb3.mono hb2.size))
 have HT3:=Xj (Lt.new w2 ⟨rk,rn,rv,rt⟩)
 have HS2:Xq (gr<w2.heap.size):=Xj (by have:=HR1'.o.lt;have:=hb2.size;omega)
 go_upto_region 2 with fail
 obtain⟨w3,hw3⟩:∃ W,w2.alloc (.cells #[.int .i64 rk,.int .i64 rn,.int .i64 rv,.string (st rt)] 103)=W:=⟨_,rfl⟩
 obtain⟨gt,hgt⟩:∃ x,w2.heap.size=x:=⟨_,rfl⟩
 have HT4:Xq (Lt w3 gt ⟨rk,rn,rv,rt⟩):=Xj (by rw[<- hw3,<- hgt];exact HT3.o)
 rw[hw3] at HB ⊢
 rw[hgt] at HS2
 (try rw[hgt])
 clear hw3 hgt hb2 hb3 HT3
 have HP3:=Xj (HP.o.below HB.o)
 have HR3:=Xj (HR1'.o.be HB.o)
 have HG3:=Xj (Xp HG1.o (Xm HB.o (some K.g)))
 have hgl:=HAL.o.1
 have hgrt:=HS2.o
 obtain⟨t0,t1,t2,t3⟩:=HT4.o.cells
 obtain⟨y0,y1,y2,y3⟩:=HR3.o.cells
 obtain⟨g0,g1,g2,g3⟩:=HR3.o.froz
 have hlR:=HR3.o.lt
 have hlT:=HT4.o.lt
 (try dsimp only at t0 t1 t2 t3 y0 y1 y2 y3)
 obtain⟨-,p1,p2,f1,f2,hlp⟩:=HP3.o.cells
 have hqg:Xq (∀ W,W=(((((w3.setCell ⟨K.g,2,none⟩ (.bool true)).setCell ⟨gr,0,none⟩ (.int .i64 0)).setCell ⟨gr,1,none⟩ (.int .i64 0)).setCell ⟨gr,2,none⟩ (.int .i64 0)).setCell ⟨gr,3,none⟩ (.string ⟨#[]⟩))->Lt W gr ⟨0,0,0,[]⟩/\RAt W K at_ true rest/\w.grownBy W (some K.g)):=Xj (λ W hW=>by
  subst hW
  exact⟨(HR3.o.s1 (p:=⟨K.g,2,none⟩) (v:=.bool true) (by show gr≠K.g;omega)).s4 ⟨0,0,0,[]⟩,HP3.o.setBad.s4 ⟨by omega,HAL.o.2⟩ _ _ _ _,My (Xp HG3.o (Xu w3 K.g 2 (.bool true))) (by have:=HGR.o;omega)⟩)
 cases bad
 ·by_cases hk:rk=k
  ·subst hk
   have HK:Xq (kOf rest=rk/\hdT rest=⟨rk,rn,rv,rt⟩):=Xj (by rw[HX.o];exact⟨rfl,rfl⟩)
   have hn:=HP3.o.n
   have hlt:=HP3.o.lt.1
   have hw1:IntKind.i64.wrap ((at_:Int)+1)=(at_:Int)+1:=by rw[IntKind.wrap_i64];omega
   have HOK:Xq (∀ W,W=(((((w3.setCell ⟨K.g,1,none⟩ (.int .i64 ((at_:Int)+1))).setCell ⟨gr,0,none⟩ (.int .i64 rk)).setCell ⟨gr,1,none⟩ (.int .i64 rn)).setCell ⟨gr,2,none⟩ (.int .i64 rv)).setCell ⟨gr,3,none⟩ (.string (st rt)))->Lt W gr ⟨rk,rn,rv,rt⟩/\RAt W K (at_+1) false rest.tail/\w.grownBy W (some K.g)):=Xj (λ W hW=>by
    subst hW
    exact⟨(HR3.o.s1 (p:=⟨K.g,1,none⟩) (v:=.int .i64 ((at_:Int)+1)) (by show gr≠K.g;omega)).s4 ⟨rk,rn,rv,rt⟩,(HP3.o.step (by rw[HK.o.1];exact HK0.o)).s4 ⟨by omega,HAL.o.2⟩ _ _ _ _,My (Xp HG3.o (Xu w3 K.g 1 (.int .i64 ((at_:Int)+1)))) (by have:=HGR.o;omega)⟩)
   clear hn hlt
   go_wp2_with fail
   obtain⟨wz,hwz⟩:∃ W,(((((w3.setCell ⟨K.g,1,none⟩ (.int .i64 ((at_:Int)+1))).setCell ⟨gr,0,none⟩ (.int .i64 rk)).setCell ⟨gr,1,none⟩ (.int .i64 rn)).setCell ⟨gr,2,none⟩ (.int .i64 rv)).setCell ⟨gr,3,none⟩ (.string (st rt)))=W:=⟨_,rfl⟩
   (try rw[hwz])
   obtain⟨hd,hr,hg⟩:=HOK.o wz hwz.symm
   obtain⟨d0,d1,d2,d3⟩:=hd.cells
   (try dsimp only at d0 d1 d2 d3)
   refine bodyPost_ret (v:=Pm ⟨rk,rn,rv,rt⟩) (by simp[results,Tryz.results148,go_sem,d0,d1,d2,d3]) rfl ?_
   exact⟨at_+1,false,rest.tail,hr,hg,.inl ⟨rfl,rfl,HK.o.1,by rw[HK.o.2],rfl,rfl⟩⟩
  have dk:(rk==k)=false:=by rw[beq_eq_false_iff_ne];exact hk
  have dk2:(rk != k)=true:=by rw[bne_iff_ne];exact hk
  have HK:Xq (kOf rest≠k):=Xj (by rw[HX.o];exact hk)
  clear hk
  go_wp2_with fail
  obtain⟨wz,hwz⟩:∃ W,(((((w3.setCell ⟨K.g,2,none⟩ (.bool true)).setCell ⟨gr,0,none⟩ (.int .i64 0)).setCell ⟨gr,1,none⟩ (.int .i64 0)).setCell ⟨gr,2,none⟩ (.int .i64 0)).setCell ⟨gr,3,none⟩ (.string ⟨#[]⟩))=W:=⟨_,rfl⟩
  (try rw[hwz])
  obtain⟨hd,hr,hg⟩:=hqg.o wz hwz.symm
  obtain⟨d0,d1,d2,d3⟩:=hd.cells
  (try dsimp only at d0 d1 d2 d3)
  refine bodyPost_ret (v:=Pm ⟨0,0,0,[]⟩) (by simp[results,Tryz.results148,go_sem,d0,d1,d2,d3]) rfl ?_
  exact⟨at_,true,rest,hr,hg,.inr ⟨.inr HK.o,rfl,rfl,rfl,rfl⟩⟩
 go_wp2_with fail
 obtain⟨wz,hwz⟩:∃ W,(((((w3.setCell ⟨K.g,2,none⟩ (.bool true)).setCell ⟨gr,0,none⟩ (.int .i64 0)).setCell ⟨gr,1,none⟩ (.int .i64 0)).setCell ⟨gr,2,none⟩ (.int .i64 0)).setCell ⟨gr,3,none⟩ (.string ⟨#[]⟩))=W:=⟨_,rfl⟩
 (try rw[hwz])
 obtain⟨hd,hr,hg⟩:=hqg.o wz hwz.symm
 obtain⟨d0,d1,d2,d3⟩:=hd.cells
 (try dsimp only at d0 d1 d2 d3)
 refine bodyPost_ret (v:=Pm ⟨0,0,0,[]⟩) (by simp[results,Tryz.results148,go_sem,d0,d1,d2,d3]) rfl ?_
 exact⟨at_,true,rest,hr,hg,.inr ⟨.inl rfl,rfl,rfl,rfl,rfl⟩⟩
def EQ (K:PC) (lv:Lv) (at_:Nat) (bad:Bool) (rest:List Tk) (w:World) (e:Ending) (w':World):Prop :=
 ∃ (h:Hd) (a:Option Addr) (n c:Nat) (bad2:Bool) (at2:Nat) (r:List Tk),e=.returned (exv h (.slice a n c))/\RAt w' K at2 bad2 r/\r.length<=rest.length/\w.grownBy w' (some K.g) /\
  Xq ((bad=false/\bad2=false/\∃ ar,Ps lv rest (.ok (Xb h ar) r)/\Xk w' (λ b=>w.heap.size<=b) ar (.slice a n c)/\r.length<rest.length)\/(bad=false/\bad2=true/\Ps lv rest (.bad r))\/(bad=true/\bad2=true/\at2=at_/\r=rest))
def mu:Bool->List Tk->Nat
 | true,_=>0
 | false,rest=>rest.length
def CQ (f:FuncId) (lv:Lv) (m:Nat):Prop:=∀ (K:PC) (at_:Nat) (bad:Bool) (rest:List Tk) (w:World),RAt w K at_ bad rest->mu bad rest<=m->Calls Tryz.prog f #[.pointer (some ⟨K.g,0,none⟩)] w (EQ K lv at_ bad rest w)
def UpB (w:World) (P:Nat->Prop):Nat->Prop:=λ b=>(P b/\b<w.heap.size)\/w.heap.size<=b
def xxt (k op ln:Int) (h1 h2:Hd) (s1 s2:Value) (w:World) (e:Ending) (w':World):Prop :=
 ∃ g,e=.returned (exv ⟨k,op,0,ln,[]⟩ (.slice (some ⟨g,0,none⟩) 2 2))/\Below w.heap.size w w' /\
  Xq (∀ (P:Nat->Prop) (a1 a2:Fo),Xk w P a1 s1->Xk w P a2 s2->Xk w' (UpB w P) ((Xb h1 a1).app (Xb h2 a2)) (.slice (some ⟨g,0,none⟩) 2 2))
theorem Jh (k op ln:Int) (h1 h2:Hd) (a1 a2:Option Addr) (n1 c1 n2 c2:Nat) (w:World):Calls Tryz.prog 86 #[.int .i64 k,.int .i64 op,.int .i64 ln,exv h1 (.slice a1 n1 c1),exv h2 (.slice a2 n2 c2)] w (xxt k op ln h1 h2 (.slice a1 n1 c1) (.slice a2 n2 c2) w):=by
 have HA:=Xj (((Lc.new w h1 (.slice a1 n1 c1)).al (.cells (ecs h2 (.slice a2 n2 c2)) 37)).al zex)
 have HB:=Xj ((Lc.new (w.alloc (.cells (ecs h1 (.slice a1 n1 c1)) 37)) h2 (.slice a2 n2 c2)).al zex)
 have HR:=Xj (Lc.zero ((w.alloc (.cells (ecs h1 (.slice a1 n1 c1)) 37)).alloc (.cells (ecs h2 (.slice a2 n2 c2)) 37)))
 have HW:=Xj (((Xw w (.cells (ecs h1 (.slice a1 n1 c1)) 37)).alloc (by simp) (.cells (ecs h2 (.slice a2 n2 c2)) 37)).alloc (by simp;omega) zex)
 have HS:Xq (w.heap.size<(w.alloc (.cells (ecs h1 (.slice a1 n1 c1)) 37)).heap.size/\(w.alloc (.cells (ecs h1 (.slice a1 n1 c1)) 37)).heap.size<((w.alloc (.cells (ecs h1 (.slice a1 n1 c1)) 37)).alloc (.cells (ecs h2 (.slice a2 n2 c2)) 37)).heap.size):=Xj ⟨by simp,by simp⟩
 go_enter Tryz.func86,Tryz.ntmps86
 go_upto_region 1 with fail
 obtain⟨w3,hw3⟩:∃ W,((w.alloc (.cells (ecs h1 (.slice a1 n1 c1)) 37)).alloc (.cells (ecs h2 (.slice a2 n2 c2)) 37)).alloc zex=W:=⟨_,rfl⟩
 obtain⟨gR,hgR⟩:∃ x,((w.alloc (.cells (ecs h1 (.slice a1 n1 c1)) 37)).alloc (.cells (ecs h2 (.slice a2 n2 c2)) 37)).heap.size=x:=⟨_,rfl⟩
 obtain⟨gB,hgB⟩:∃ x,(w.alloc (.cells (ecs h1 (.slice a1 n1 c1)) 37)).heap.size=x:=⟨_,rfl⟩
 obtain⟨gA,hgA⟩:∃ x,w.heap.size=x:=⟨_,rfl⟩
 have hw3':=hw3
 have hgR':=hgR
 have hgB':=hgB
 simp only[ecs] at hw3' hgR' hgB'
 (try rw[hw3'])
 (try rw[hgR'])
 (try rw[hgB'])
 (try rw[hgA])
 rw[hw3] at HA HB HR HW
 rw[hgR] at HR HS
 rw[hgB] at HB HS
 have HGA:=Xj hgA
 have hB1:gB=gA+1:=by rw[<- hgB,<- hgA];simp
 have hR1:gR=gA+1+1:=by rw[<- hgR,<- hgA];simp
 rw[hgA] at HA HS
 clear hw3 hgR hgB hw3' hgR' hgB' hgA
 subst hB1
 subst hR1
 obtain⟨x0,x1,x2,x3,x4,x5⟩:=HA.o.cells
 obtain⟨z0,z1,z2,z3,z4,z5⟩:=HB.o.cells
 obtain⟨y0,y1,y2,y3,y4,y5⟩:=HR.o.cells
 obtain⟨g0,g1,g2,g3,g4,g5⟩:=HR.o.froz
 have hlA:=HA.o.lt
 have hlB:=HB.o.lt
 have hlR:=HR.o.lt
 have hs:=HS.o
 have hjg:Xq (∀ W,W=(set6 w3 (gA+1+1) (.int .i64 k) (.int .i64 op) (.int .i64 0) (.int .i64 ln) (.string { data := #[] }) (.slice (some ⟨w3.heap.size,0,none⟩) 2 2)).alloc (.cells #[.int .i64 h1.k,.int .i64 h1.op,.int .i64 h1.v,.int .i64 h1.ln,.string (st h1.nm),.slice a1 n1 c1,.int .i64 h2.k,.int .i64 h2.op,.int .i64 h2.v,.int .i64 h2.ln,.string (st h2.nm),.slice a2 n2 c2] 37) ->
   Lc W (gA+1+1) ⟨k,op,0,ln,[]⟩ (.slice (some ⟨w3.heap.size,0,none⟩) 2 2)/\Below w.heap.size w W/\(∀ (P:Nat->Prop) (b1 b2:Fo),Xk w P b1 (.slice a1 n1 c1)->Xk w P b2 (.slice a2 n2 c2)->Xk W (UpB w P) ((Xb h1 b1).app (Xb h2 b2)) (.slice (some ⟨w3.heap.size,0,none⟩) 2 2))):=Xj (λ W hW=>by
  have hsz:=HW.o.size
  have hga:=HGA.o
  refine⟨?_,?_,λ P b1 b2 k1 k2=>?_⟩
  ·rw[hW]
   exact(HR.o.s6 ⟨k,op,0,ln,[]⟩ (.slice (some ⟨w3.heap.size,0,none⟩) 2 2)).al _
  ·rw[hW]
   exact(Kk HW.o (by omega)).trans ((Xw _ _).mono (by rw[Zz];exact hsz))
  have m1:=Yz (g:=gA+1+1) (v0:=.int .i64 k) (v1:=.int .i64 op) (v2:=.int .i64 0) (v3:=.int .i64 ln) (v4:=.string { data := #[] }) (v5:=.slice (some ⟨w3.heap.size,0,none⟩) 2 2) (k1.keep (Q:=λ b=>P b/\b<w.heap.size) (λ b hb hlt=>⟨HW.o.block b hlt,hb,hlt⟩) hsz) (λ b hb=>by omega)
  have m2:=Yz (g:=gA+1+1) (v0:=.int .i64 k) (v1:=.int .i64 op) (v2:=.int .i64 0) (v3:=.int .i64 ln) (v4:=.string { data := #[] }) (v5:=.slice (some ⟨w3.heap.size,0,none⟩) 2 2) (k2.keep (Q:=λ b=>P b/\b<w.heap.size) (λ b hb hlt=>⟨HW.o.block b hlt,hb,hlt⟩) hsz) (λ b hb=>by omega)
  have m:=Vj (Q:=UpB w P) (h1:=h1) (h2:=h2) m1 m2 (λ b hb _=>.inl hb) (.inr (by rw[Zz];exact hsz))
  rw[Zz] at m
  rw[hW]
  exact m)
 go_wp2_with fail
 obtain⟨wz,hwz⟩:∃ W,(set6 w3 (gA+1+1) (.int .i64 k) (.int .i64 op) (.int .i64 0) (.int .i64 ln) (.string { data := #[] }) (.slice (some ⟨w3.heap.size,0,none⟩) 2 2)).alloc (.cells #[.int .i64 h1.k,.int .i64 h1.op,.int .i64 h1.v,.int .i64 h1.ln,.string (st h1.nm),.slice a1 n1 c1,.int .i64 h2.k,.int .i64 h2.op,.int .i64 h2.v,.int .i64 h2.ln,.string (st h2.nm),.slice a2 n2 c2] 37)=W:=⟨_,rfl⟩
 have hY:=hwz
 unfold set6 at hY
 (try rw[hY])
 obtain⟨hd,hbz,hjx⟩:=hjg.o wz hwz.symm
 obtain⟨d0,d1,d2,d3,d4,d5⟩:=hd.cells
 refine bodyPost_ret (v:=exv ⟨k,op,0,ln,[]⟩ (.slice (some ⟨w3.heap.size,0,none⟩) 2 2)) (by simp[results,Tryz.results86,go_sem,d0,d1,d2,d3,d4,d5]) rfl ?_
 exact⟨w3.heap.size,rfl,hbz,Xj hjx⟩
def xvg (bad:Bool) (rest:List Tk) (w:World) (e:Ending) (w':World):Prop:=Below w.heap.size w w' /\
  (((bad=true\/kOf rest≠0)/\e=.returned (.tuple #[.int .i64 (Yb rest),.int .i64 7]))\/(bad=false/\kOf rest=0/\e=.returned (.tuple #[.int .i64 0,.int .i64 0])))
theorem Lp (K:PC) (at_:Nat) (bad:Bool) (rest:List Tk) (w:World) (h:RAt w K at_ bad rest) (hw0:K.wr=0):Calls Tryz.prog 50 #[.pointer (some ⟨K.g,0,none⟩)] w (xvg bad rest w):=by
 obtain⟨⟨rk,rn,rv,rt⟩,r,hxr⟩:=h.en.cons
 have HP:=Xj h
 have HKR:Xq (kOf rest=rk/\Yb rest=rn):=Xj (by rw[hxr];exact⟨rfl,rfl⟩)
 have HLK:Xq (∀ wx,RAt wx K at_ bad rest->Calls Tryz.prog 85 #[.pointer (some ⟨K.g,0,none⟩)] wx λ e w'=>e=.returned (.agg #[.int .i64 rk,.int .i64 rn,.int .i64 rv,.string (st rt)])/\Below wx.heap.size wx w'):=Xj (λ wx h=>Vm K at_ bad rk rn rv rt r wx (by rw[<- hxr];exact h))
 have HC:Xq (∀ wx,RAt wx K at_ bad rest->wx.cell? ⟨K.g,2,none⟩=some (.bool bad)/\wx.cell? ⟨K.g,3,none⟩=some (.int .i64 0)/\K.g<wx.heap.size):=Xj (λ wx h=>⟨cell_of_row _ _ 2 _ _ _ h.row,by have:=cell_of_row _ _ 3 _ _ _ h.row;rw[this];simp[hw0],h.glt⟩)
 have hfd0:∀ W:World,(Instr.field 103 (.agg #[.int .i64 rk,.int .i64 rn,.int .i64 rv,.string (st rt)]) 0).run Tryz.prog W=.ok (.int .i64 rk) W:=λ _=>by kernel_rfl
 have hft:∀ W:World,(Instr.field 103 (.agg #[.int .i64 rk,.int .i64 rn,.int .i64 rv,.string (st rt)]) 1).run Tryz.prog W=.ok (.int .i64 rn) W:=λ _=>by kernel_rfl
 clear h hxr hw0
 obtain⟨c2,c3,hl⟩:=HC.o _ HP.o
 go_enter Tryz.func50,Tryz.ntmps50
 cases bad
 ·go_wp2_with fail
  refine(HLK.o _ HP.o).mono ?_
  rintro e w2 ⟨rfl,hb2⟩
  have HB2:=Xj hb2
  have HP2:=Xj (HP.o.below hb2)
  clear hb2
  by_cases hk:rk=0
  ·subst hk
   obtain⟨d2,d3,hl2⟩:=HC.o _ HP2.o
   go_wp2_with fail
   refine bodyPost_ret (v:=.tuple #[.int .i64 0,.int .i64 0]) (by simp[results,Tryz.results50,go_sem]) rfl ?_
   exact⟨HB2.o,.inr ⟨rfl,HKR.o.1,rfl⟩⟩
  have dk:(rk==0)=false:=by rw[beq_eq_false_iff_ne];exact hk
  have dk2:(rk != 0)=true:=by rw[bne_iff_ne];exact hk
  have HK:Xq (kOf rest≠0):=Xj (by rw[HKR.o.1];exact hk)
  clear hk
  go_wp2_with fail
  refine(HLK.o _ HP2.o).mono ?_
  rintro e w3 ⟨rfl,hb3⟩
  have HB3:=Xj (HB2.o.trans (hb3.mono HB2.o.size))
  clear hb3
  go_wp2_with fail
  refine bodyPost_ret (v:=.tuple #[.int .i64 rn,.int .i64 7]) (by simp[results,Tryz.results50,go_sem]) rfl ?_
  exact⟨HB3.o,.inl ⟨.inr HK.o,by rw[HKR.o.2]⟩⟩
 go_wp2_with fail
 refine(HLK.o _ HP.o).mono ?_
 rintro e w3 ⟨rfl,hb3⟩
 have HB3:=Xj hb3
 clear hb3
 go_wp2_with fail
 refine bodyPost_ret (v:=.tuple #[.int .i64 rn,.int .i64 7]) (by simp[results,Tryz.results50,go_sem]) rfl ?_
 exact⟨HB3.o,.inl ⟨.inl rfl,by rw[HKR.o.2]⟩⟩
end Go.Proofs.YtldgghnjminhiaaGreatDoor
