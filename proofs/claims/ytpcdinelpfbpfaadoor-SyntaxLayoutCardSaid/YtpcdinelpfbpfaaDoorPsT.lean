/-
  PLAIN WORDS: tokens that end, and what is right of them. No walk. (Filled in from a template of this repo.)
-/
import Derived.Test.YtpcdinelpfbpfaaDoorPsP
namespace Go.Proofs.YtpcdinelpfbpfaaDoor
set_option linter.unusedVariables false
set_option linter.unusedSimpArgs false

def Tv (x:Tk):Prop:=(x.k=1\/x.k=2\/x.k=3\/x.k=4)/\(x.k=3->isW x.t=true)/\(x.k=4->isS x.t=true)
theorem TokOk.tv {x:Tk} (h:TokOk x):Tv x:=by
 obtain⟨ln0,b,l,hst⟩:=h
 obtain⟨_,_,_,_,h5,_⟩:=step_tok hst
 unfold nxI at h5
 dsimp only at h5
 split at h5
 ·injection h5 with e h5
  injection h5 with _ h5
  injection h5 with e2 h5
  rw [e2] at e
  split at e
  ·rename_i hw;exact⟨by omega,fun _=>hw,fun e3=>by omega⟩
  ·exact⟨by omega,fun e3=>by omega,fun e3=>by omega⟩
 ·split at h5
  ·split at h5
   ·injection h5 with e _;exact⟨by omega,fun e3=>by omega,fun e3=>by omega⟩
   ·injection h5 with e _;exact⟨by omega,fun e3=>by omega,fun e3=>by omega⟩
  ·split at h5
   ·rename_i hc
    injection h5 with e h5
    injection h5 with _ h5
    injection h5 with e2 _
    exact⟨by omega,fun e3=>by omega,fun _=>by rw [<- e2];exact hc.2⟩
   ·injection h5 with e h5
    injection h5 with _ h5
    injection h5 with e2 h5
    exact⟨by omega,fun e3=>by omega,fun _=>by rw [<- e2];exact h5⟩
def EndT:List Tk->Prop
 | []=>False
 | [x]=>x.k=0
 | x::y::r=>Tv x/\EndT (y::r)
theorem EndT.of {ys:List Tk} {ln:Int} (h : ∀ x∈ys,Tv x):EndT (ys++[⟨0,ln,0,[]⟩]):=by
 induction ys with
 | nil=>rfl
 | cons x ys ih =>
  have h1:=ih (fun z hz=>h z (by simp [hz]))
  cases ys with
  | nil=>exact⟨h x (by simp),h1⟩
  | cons y ys=>exact⟨h x (by simp),h1⟩
theorem EndT.scan {l:Bt} {ts:List Tk} {y:Int} (h:Go.Proofs.YtpcdinelpfbpfaaDoor.scan l=(some ts,y)):EndT ts:=by
 obtain⟨ys,ln,rfl,_,h3,_⟩:=scan_toks h
 exact EndT.of fun x hx=>(h3 x hx).tv
theorem EndT.cons {ts:List Tk} (h:EndT ts) : ∃ x r,ts=x::r:=by
 cases ts with
 | nil=>exact absurd h id
 | cons x r=>exact⟨x,r,rfl⟩
theorem EndT.more {x:Tk} {r:List Tk} (h:EndT (x::r)) (hk:x.k≠0):EndT r/\Tv x:=by
 cases r with
 | nil=>exact absurd h hk
 | cons y r=>exact⟨h.2,h.1⟩
theorem EndT.tv {x:Tk} {r:List Tk} (h:EndT (x::r)):x.k=0\/Tv x:=by
 cases r with
 | nil=>exact .inl h
 | cons y r=>exact .inr h.1
theorem EndT.isT {t:Bt} {ts:List Tk} (h:EndT ts) (k:Go.Proofs.YtpcdinelpfbpfaaDoor.isT t ts=true):EndT ts.tail:=by
 obtain⟨x,r,rfl⟩:=h.cons
 have h0:=(isT_k k).2.2.1
 exact(h.more h0).1
theorem EndT.kOf {ts:List Tk} (h:EndT ts) (k:Go.Proofs.YtpcdinelpfbpfaaDoor.kOf ts≠0):EndT ts.tail:=by
 obtain⟨x,r,rfl⟩:=h.cons
 exact(h.more k).1
theorem opOf_pos (t:Bt):0<=opOf t/\opOf t<=11:=by
 unfold opOf
 (repeat' split) <;> omega
theorem opIn_k {lo hi:Int} {ts:List Tk} (h:opIn lo hi ts≠0):kOf ts=4:=by
 cases ts with
 | nil=>exact absurd rfl h
 | cons x r =>
  change (if x.k=4/\lo<=opOf x.t/\opOf x.t<=hi then opOf x.t else 0)≠0 at h
  split at h
  ·rename_i hc;exact hc.1
  ·exact absurd rfl h
theorem opIn_le {lo hi:Int} (ts:List Tk):0<=opIn lo hi ts/\opIn lo hi ts<=11:=by
 cases ts with
 | nil=>exact⟨Int.le_refl _,by show (0:Int)<=11;omega⟩
 | cons x r =>
  show 0<=(if x.k=4/\lo<=opOf x.t/\opOf x.t<=hi then opOf x.t else 0)/\(if x.k=4/\lo<=opOf x.t/\opOf x.t<=hi then opOf x.t else 0)<=11
  split
  ·exact opOf_pos x.t
  ·omega
def Fo.drop:Fo->Nat->Fo
 | F,0=>F
 | .nil,_+1=>.nil
 | .cons _ _ r,i+1=>r.drop i
def eqF (lines:Bool):Fo->Fo->Bool
 | .nil,.nil=>true
 | .cons h a r,.cons h' a' r'=>(h.k==h'.k&&(h.op==h'.op&&(h.v==h'.v&&(h.nm==h'.nm&&((!lines||h.ln==h'.ln)&&eqF lines a a')))))&&eqF lines r r'
 | _,_=>false
theorem eqF_refl (lines:Bool) (F:Fo):eqF lines F F=true:=by
 induction F with
 | nil=>rfl
 | cons h a r ih1 ih2=>simp [eqF,ih1,ih2]
theorem eqF_len {lines:Bool} {F G:Fo} (h:F.len≠G.len):eqF lines F G=false:=by
 induction F generalizing G with
 | nil=>cases G with
  | nil=>exact absurd rfl h
  | cons h a r=>rfl
 | cons h1 a1 r1 _ ih =>
  cases G with
  | nil=>rfl
  | cons h2 a2 r2 =>
   have:=ih (G:=r2) (fun e=>h (by simp only [Fo.len,e]))
   simp [eqF,this]
theorem Fo.drop_get {F:Fo} {i:Nat} {x:Hd×Fo} (h:F.get i=some x):F.drop i=.cons x.1 x.2 (F.drop (i+1)):=by
 induction F generalizing i with
 | nil=>cases h
 | cons h1 a1 r1 _ ih =>
  cases i with
  | zero=>injection h with h;subst h;cases r1 <;> rfl
  | succ i =>
   have:=ih (i:=i) h
   show r1.drop i=_
   rw [this]
   rfl
theorem Fo.drop_len (F:Fo):F.drop F.len=.nil:=by
 induction F with
 | nil=>rfl
 | cons h1 a1 r1 _ ih=>exact ih
end Go.Proofs.YtpcdinelpfbpfaaDoor
