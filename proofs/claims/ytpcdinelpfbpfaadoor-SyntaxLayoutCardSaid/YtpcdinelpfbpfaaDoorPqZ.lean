/-
  PLAIN WORDS: what is parsed: the beginnings of statements, globals, functions, programs. No walk. (Filled in from a template of this repo.)
-/
import Derived.Test.YtpcdinelpfbpfaaDoorPqP
namespace Go.Proofs.YtpcdinelpfbpfaaDoor
set_option linter.unusedVariables false
set_option linter.unusedSimpArgs false

section
variable {ts:List Tk}
theorem isT_one {s t:Bt} (h:isT s ts=true) (hn:s≠t):isT t ts=false:=by
 cases ts with
 | nil=>rfl
 | cons x r =>
  simp only [isT,Bool.and_eq_true,beq_iff_eq] at h
  cases hk:isT t (x::r)
  ·rfl
  ·simp only [isT,Bool.and_eq_true,beq_iff_eq] at hk
   exact absurd (h.2.symm.trans hk.2) hn
theorem hk_var (h:isT [118,97,114] ts=true):hk ts=(if kOf ts.tail=1 then (if isT [61] ts.tail.tail=true then .val 1 (tOf ts.tail) ts.tail.tail.tail else .bad ts.tail.tail) else .bad ts.tail):=by unfold hk;rw [if_pos h]
theorem hk_if (h:isT [105,102] ts=true):hk ts=.cho 4 ts.tail:=by simp [hk,h,isT_one h (t:=[118,97,114]) (by decide)]
theorem hk_while (h:isT [119,104,105,108,101] ts=true):hk ts=.cho 5 ts.tail:=by simp [hk,h,isT_one h (t:=[118,97,114]) (by decide),isT_one h (t:=[105,102]) (by decide)]
theorem hk_return (h:isT [114,101,116,117,114,110] ts=true):hk ts=.val 6 [] ts.tail:=by simp [hk,h,isT_one h (t:=[118,97,114]) (by decide),isT_one h (t:=[105,102]) (by decide),isT_one h (t:=[119,104,105,108,101]) (by decide)]
theorem hk_print (h:isT [112,114,105,110,116] ts=true):hk ts=.val 7 [] ts.tail:=by simp [hk,h,isT_one h (t:=[118,97,114]) (by decide),isT_one h (t:=[105,102]) (by decide),isT_one h (t:=[119,104,105,108,101]) (by decide),isT_one h (t:=[114,101,116,117,114,110]) (by decide)]
theorem hk_call (h:isT [99,97,108,108] ts=true):hk ts=.val 8 [] ts.tail:=by simp [hk,h,isT_one h (t:=[118,97,114]) (by decide),isT_one h (t:=[105,102]) (by decide),isT_one h (t:=[119,104,105,108,101]) (by decide),isT_one h (t:=[114,101,116,117,114,110]) (by decide),isT_one h (t:=[112,114,105,110,116]) (by decide)]
def noW (ts:List Tk):Prop:=isT [118,97,114] ts=false/\isT [105,102] ts=false/\isT [119,104,105,108,101] ts=false/\isT [114,101,116,117,114,110] ts=false/\isT [112,114,105,110,116] ts=false/\isT [99,97,108,108] ts=false
theorem hk_else (h:noW ts):hk ts=(if kOf ts=1 then (if isT [91] ts.tail=true then .sto (tOf ts) ts.tail.tail else if isT [61] ts.tail=true then .val 2 (tOf ts) ts.tail.tail else .bad ts.tail) else .bad ts):=by
 obtain⟨h1,h2,h3,h4,h5,h6⟩:=h
 unfold hk
 rw [h1,h2,h3,h4,h5,h6]
 simp only [Bool.false_eq_true,if_false]
end
inductive PG where
 | ok (nm:Bt) (sz wr:Int) (r:List Tk)
 | bad (r:List Tk)
def wrOf (v ln wr:Int):Int:=if (v<1\/1024<v)/\wr=0 then ln else wr
def glP (wr:Int) (ts:List Tk):PG :=
 if kOf ts=1 then
  (if isT [91] ts.tail=true then
   (if kOf ts.tail.tail=2 then
    (if isT [93] ts.tail.tail.tail=true then
     (if isT [59] ts.tail.tail.tail.tail=true then .ok (tOf ts) (vOf ts.tail.tail) (wrOf (vOf ts.tail.tail) (lnOf ts.tail.tail) wr) ts.tail.tail.tail.tail.tail else .bad ts.tail.tail.tail.tail)
    else .bad ts.tail.tail.tail)
   else .bad ts.tail.tail)
  else if isT [59] ts.tail=true then .ok (tOf ts) 0 wr ts.tail.tail else .bad ts.tail)
 else .bad ts
inductive PP where
 | ok (ps:List Bt) (r:List Tk)
 | bad (r:List Tk)
def uP (ps:List Bt) (ts:List Tk):List Tk:=if ps=[] then ts else ts.tail
def paF:Nat->List Bt->List Tk->Option PP
 | 0,_,_=>none
 | n+1,ps,ts=>if isT [41] ts=true then some (.ok ps ts.tail)
   else if ps≠[]/\isT [44] ts=false then some (.bad ts)
   else if kOf (uP ps ts)=1 then paF n (ps++[tOf (uP ps ts)]) (uP ps ts).tail else some (.bad (uP ps ts))
theorem paF_succ (n:Nat) : ∀ ps ts y,paF n ps ts=some y->paF (n+1) ps ts=some y:=by
 induction n with
 | zero=>intro ps ts y h;cases h
 | succ n ih =>
  intro ps ts y h
  unfold paF at h ⊢
  split
  ·rename_i h1;rw [if_pos h1] at h;exact h
  ·rename_i h1
   rw [if_neg h1] at h
   split
   ·rename_i h2;rw [if_pos h2] at h;exact h
   ·rename_i h2
    rw [if_neg h2] at h
    split
    ·rename_i h3;rw [if_pos h3] at h;exact ih _ _ _ h
    ·rename_i h3;rw [if_neg h3] at h;exact h
theorem paF_le {n m:Nat} (h:n<=m) {ps:List Bt} {ts:List Tk} {y:PP} (hn:paF n ps ts=some y):paF m ps ts=some y:=by
 induction h with
 | refl=>exact hn
 | step _ ih=>exact paF_succ _ _ _ _ ih
def Pr (ps:List Bt) (ts:List Tk) (y:PP):Prop := ∃ n,paF n ps ts=some y
theorem Pr.det {ps:List Bt} {ts:List Tk} {y z:PP} (h:Pr ps ts y) (k:Pr ps ts z):y=z:=by
 obtain⟨n,hn⟩:=h
 obtain⟨m,hm⟩:=k
 have h1:=paF_le (Nat.le_max_left n m) hn
 have h2:=paF_le (Nat.le_max_right n m) hm
 rw [h1] at h2
 injection h2
theorem Pr.fin {ps:List Bt} {ts:List Tk} (h:isT [41] ts=true):Pr ps ts (.ok ps ts.tail):=⟨1,by unfold paF;rw [if_pos h]⟩
theorem Pr.no {ps:List Bt} {ts:List Tk} (h:isT [41] ts=false) (h2:ps≠[]) (h3:isT [44] ts=false):Pr ps ts (.bad ts):=⟨1,by unfold paF;rw [if_neg (by rw [h];simp),if_pos ⟨h2,h3⟩]⟩
theorem Pr.nm {ps:List Bt} {ts u:List Tk} (h:isT [41] ts=false) (h2:ps≠[]->isT [44] ts=true) (hu:u=uP ps ts) (hk:kOf u≠1):Pr ps ts (.bad u):=⟨1,by
 unfold paF
 rw [if_neg (by rw [h];simp),if_neg (by intro e;rw [h2 e.1] at e;cases e.2),if_neg (by rw [<- hu];exact hk),hu]⟩
theorem Pr.more {ps:List Bt} {ts u:List Tk} {y:PP} (h:isT [41] ts=false) (h2:ps≠[]->isT [44] ts=true) (hu:u=uP ps ts) (hk:kOf u=1) (k:Pr (ps++[tOf u]) u.tail y):Pr ps ts y:=by
 obtain⟨n,hn⟩:=k
 refine⟨n+1,?_⟩
 unfold paF
 rw [if_neg (by rw [h];simp),if_neg (by intro e;rw [h2 e.1] at e;cases e.2),if_pos (by rw [<- hu];exact hk),<- hu]
 exact hn
inductive PF where
 | ok (nm:Bt) (ps:List Bt) (S:Sf) (r:List Tk)
 | bad (r:List Tk)
inductive Fs (ts:List Tk):PF->Prop where
 | name (h:kOf ts≠1):Fs ts (.bad ts)
 | par (h:kOf ts=1) (h2:isT [40] ts.tail=false):Fs ts (.bad ts.tail)
 | pbad {r:List Tk} (h:kOf ts=1) (h2:isT [40] ts.tail=true) (h3:Pr [] ts.tail.tail (.bad r)):Fs ts (.bad r)
 | bbad {ps:List Bt} {r r2:List Tk} (h:kOf ts=1) (h2:isT [40] ts.tail=true) (h3:Pr [] ts.tail.tail (.ok ps r)) (h4:Qs .bl r (.bad r2)):Fs ts (.bad r2)
 | ok {ps:List Bt} {S:Sf} {r r2:List Tk} (h:kOf ts=1) (h2:isT [40] ts.tail=true) (h3:Pr [] ts.tail.tail (.ok ps r)) (h4:Qs .bl r (.ok S r2)):Fs ts (.ok (tOf ts) ps S r2)
theorem Fs.det {ts:List Tk} {y z:PF} (h:Fs ts y) (k:Fs ts z):y=z:=by
 cases h with
 | name a1=>cases k <;> first | rfl | (exact absurd (by assumption) a1)
 | par a1 a2=>cases k <;> first | rfl | (exact absurd a1 (by assumption)) | (rename_i b1 b2 _ ;rw [a2] at b2;cases b2) | (rename_i b1 b2 _ _;rw [a2] at b2;cases b2)
 | pbad a1 a2 a3 =>
  cases k with
  | name b1=>exact absurd a1 b1
  | par b1 b2=>rw [a2] at b2;cases b2
  | pbad b1 b2 b3=>have:=a3.det b3;injection this with this;rw [this]
  | bbad b1 b2 b3 b4=>have:=a3.det b3;cases this
  | ok b1 b2 b3 b4=>have:=a3.det b3;cases this
 | bbad a1 a2 a3 a4 =>
  cases k with
  | name b1=>exact absurd a1 b1
  | par b1 b2=>rw [a2] at b2;cases b2
  | pbad b1 b2 b3=>have:=a3.det b3;cases this
  | bbad b1 b2 b3 b4=>have:=a3.det b3;injection this with _ this;subst this;have:=a4.det b4;injection this with this;rw [this]
  | ok b1 b2 b3 b4=>have:=a3.det b3;injection this with _ this;subst this;have:=a4.det b4;cases this
 | ok a1 a2 a3 a4 =>
  cases k with
  | name b1=>exact absurd a1 b1
  | par b1 b2=>rw [a2] at b2;cases b2
  | pbad b1 b2 b3=>have:=a3.det b3;cases this
  | bbad b1 b2 b3 b4=>have:=a3.det b3;injection this with _ this;subst this;have:=a4.det b4;cases this
  | ok b1 b2 b3 b4=>have:=a3.det b3;injection this with t1 this;subst t1 this;have:=a4.det b4;injection this with t2 t3;rw [t2,t3]
structure Fu where
 nm:Bt
 ln:Int
 ps:List Bt
 S:Sf
inductive PO where
 | ok (gs:List (Bt×Int)) (fs:List Fu) (wr:Int) (r:List Tk)
 | bad (r:List Tk)
abbrev glW:Bt:=[103,108,111,98,97,108]
abbrev fnW:Bt:=[102,117,110,99]
inductive So:Int->List (Bt×Int)->List Fu->List Tk->PO->Prop where
 | fin {wr:Int} {gs:List (Bt×Int)} {fs:List Fu} {ts:List Tk} (h:kOf ts=0):So wr gs fs ts (.ok gs fs wr ts)
 | gl {wr wr2 sz:Int} {gs:List (Bt×Int)} {fs:List Fu} {ts r:List Tk} {nm:Bt} {y:PO} (h:isT glW ts=true) (h2:glP wr ts.tail=.ok nm sz wr2 r) (k:So wr2 (gs++[(nm,sz)]) fs r y):So wr gs fs ts y
 | glb {wr:Int} {gs:List (Bt×Int)} {fs:List Fu} {ts r:List Tk} (h:isT glW ts=true) (h2:glP wr ts.tail=.bad r):So wr gs fs ts (.bad r)
 | fn {wr:Int} {gs:List (Bt×Int)} {fs:List Fu} {ts r:List Tk} {nm:Bt} {ps:List Bt} {S:Sf} {y:PO} (h:isT fnW ts=true) (h2:Fs ts.tail (.ok nm ps S r)) (k:So wr gs (fs++[⟨nm,lnOf ts,ps,S⟩]) r y):So wr gs fs ts y
 | fnb {wr:Int} {gs:List (Bt×Int)} {fs:List Fu} {ts r:List Tk} (h:isT fnW ts=true) (h2:Fs ts.tail (.bad r)):So wr gs fs ts (.bad r)
 | no {wr:Int} {gs:List (Bt×Int)} {fs:List Fu} {ts:List Tk} (h:kOf ts≠0) (h1:isT glW ts=false) (h2:isT fnW ts=false):So wr gs fs ts (.bad ts)
theorem gf_ne {ts:List Tk} (h:isT glW ts=true) (k:isT fnW ts=true):False:=by
 have:=isT_one h (t:=fnW) (by decide)
 rw [k] at this
 cases this
theorem So.det {wr:Int} {gs:List (Bt×Int)} {fs:List Fu} {ts:List Tk} {y z:PO} (h:So wr gs fs ts y) (k:So wr gs fs ts z):y=z:=by
 induction h generalizing z with
 | fin h =>
  cases k with
  | fin _=>rfl
  | gl h2=>exact absurd h (isT_k h2).2.2.1
  | glb h2=>exact absurd h (isT_k h2).2.2.1
  | fn h2=>exact absurd h (isT_k h2).2.2.1
  | fnb h2=>exact absurd h (isT_k h2).2.2.1
  | no h2=>exact absurd h h2
 | gl h h2 _ ih =>
  cases k with
  | fin h3=>exact absurd h3 (isT_k h).2.2.1
  | gl h3 h4 h5 =>
   rw [h2] at h4
   injection h4 with e1 e2 e3 e4
   subst e1 e2 e3 e4
   exact ih h5
  | glb h3 h4=>rw [h2] at h4;cases h4
  | fn h3=>exact(gf_ne h h3).elim
  | fnb h3=>exact(gf_ne h h3).elim
  | no _ h3=>rw [h] at h3;cases h3
 | glb h h2 =>
  cases k with
  | fin h3=>exact absurd h3 (isT_k h).2.2.1
  | gl h3 h4 h5=>rw [h2] at h4;cases h4
  | glb h3 h4=>rw [h2] at h4;injection h4 with e;rw [e]
  | fn h3=>exact(gf_ne h h3).elim
  | fnb h3=>exact(gf_ne h h3).elim
  | no _ h3=>rw [h] at h3;cases h3
 | fn h h2 _ ih =>
  cases k with
  | fin h3=>exact absurd h3 (isT_k h).2.2.1
  | gl h3=>exact(gf_ne h3 h).elim
  | glb h3=>exact(gf_ne h3 h).elim
  | fn h3 h4 h5 =>
   have e:=h2.det h4
   injection e with e1 e2 e3 e4
   subst e1 e2 e3 e4
   exact ih h5
  | fnb h3 h4=>have e:=h2.det h4;cases e
  | no _ _ h3=>rw [h] at h3;cases h3
 | fnb h h2 =>
  cases k with
  | fin h3=>exact absurd h3 (isT_k h).2.2.1
  | gl h3=>exact(gf_ne h3 h).elim
  | glb h3=>exact(gf_ne h3 h).elim
  | fn h3 h4 h5=>have e:=h2.det h4;cases e
  | fnb h3 h4=>have e:=h2.det h4;injection e with e;rw [e]
  | no _ _ h3=>rw [h] at h3;cases h3
 | no h h1 h2 =>
  cases k with
  | fin h3=>exact absurd h3 h
  | gl h3=>rw [h1] at h3;cases h3
  | glb h3=>rw [h1] at h3;cases h3
  | fn h3=>rw [h2] at h3;cases h3
  | fnb h3=>rw [h2] at h3;cases h3
  | no _ _ _=>rfl
end Go.Proofs.YtpcdinelpfbpfaaDoor
