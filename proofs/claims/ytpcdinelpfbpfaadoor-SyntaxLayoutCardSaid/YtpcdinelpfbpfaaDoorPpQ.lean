/-
  PLAIN WORDS: equal statements, functions and programs, with or without lines. No walk. (Filled in from a template of this repo.)
-/
import Derived.Test.YtpcdinelpfbpfaaDoorPqZ
namespace Go.Proofs.YtpcdinelpfbpfaaDoor
set_option linter.unusedVariables false
set_option linter.unusedSimpArgs false

theorem Sf.app_asc (F G H:Sf):(F.app G).app H=F.app (G.app H):=by
 induction F with
 | nil=>rfl
 | cons k ln nm xs th el r _ _ ih=>show Sf.cons k ln nm xs th el _=Sf.cons k ln nm xs th el _;rw [ih]
theorem Sf.app_nil2 (F:Sf):F.app .nil=F:=by
 induction F with
 | nil=>rfl
 | cons k ln nm xs th el r _ _ ih=>show Sf.cons k ln nm xs th el _=Sf.cons k ln nm xs th el _;rw [ih]
def eqS (lines:Bool):Sf->Sf->Bool
 | .nil,.nil=>true
 | .cons k ln nm xs th el r,.cons k' ln' nm' xs' th' el' r'=>(k==k'&&(nm==nm'&&((!lines||ln==ln')&&(eqF lines xs xs'&&(eqS lines th th'&&eqS lines el el')))))&&eqS lines r r'
 | _,_=>false
theorem eqS_refl (lines:Bool) (F:Sf):eqS lines F F=true:=by
 induction F with
 | nil=>rfl
 | cons k ln nm xs th el r i1 i2 i3=>simp [eqS,i1,i2,i3,eqF_refl]
theorem eqS_len {lines:Bool} {F G:Sf} (h:F.len≠G.len):eqS lines F G=false:=by
 induction F generalizing G with
 | nil=>cases G with
  | nil=>exact absurd rfl h
  | cons k ln nm xs th el r=>rfl
 | cons k ln nm xs th el r _ _ ih =>
  cases G with
  | nil=>rfl
  | cons k2 ln2 nm2 xs2 th2 el2 r2 =>
   have:=ih (G:=r2) (fun e=>h (by simp only [Sf.len,e]))
   simp [eqS,this]
theorem eqF_symm {l:Bool} (F G:Fo) (h:eqF l F G=true):eqF l G F=true:=by
 induction F generalizing G with
 | nil =>
  cases G with
  | nil=>rfl
  | cons _ _ _=>cases h
 | cons h1 a1 r1 i1 i2 =>
  cases G with
  | nil=>cases h
  | cons h2 a2 r2 =>
   simp only [eqF,Bool.and_eq_true,Bool.or_eq_true,beq_iff_eq] at h ⊢
   obtain⟨⟨h1,h2,h3,h4,h5,h6⟩,h7⟩:=h
   exact⟨⟨h1.symm,h2.symm,h3.symm,h4.symm,by rcases h5 with h5 | h5;exact .inl h5;exact .inr h5.symm,i1 _ h6⟩,i2 _ h7⟩
theorem eqF_trans {l:Bool} (F G H:Fo) (h:eqF l F G=true) (k:eqF l G H=true):eqF l F H=true:=by
 induction F generalizing G H with
 | nil =>
  cases G with
  | nil=>exact k
  | cons _ _ _=>cases h
 | cons h1 a1 r1 i1 i2 =>
  cases G with
  | nil=>cases h
  | cons h2 a2 r2 =>
   cases H with
   | nil=>cases k
   | cons h3 a3 r3 =>
    simp only [eqF,Bool.and_eq_true,Bool.or_eq_true,beq_iff_eq] at h k ⊢
    obtain⟨⟨h1,h2,h3,h4,h5,h6⟩,h7⟩:=h
    obtain⟨⟨k1,k2,k3,k4,k5,k6⟩,k7⟩:=k
    exact⟨⟨h1.trans k1,h2.trans k2,h3.trans k3,h4.trans k4,by rcases h5 with h5 | h5;exact .inl h5;rcases k5 with k5 | k5;exact .inl k5;exact .inr (h5.trans k5),i1 _ _ h6 k6⟩,i2 _ _ h7 k7⟩
theorem eqS_symm {l:Bool} (F G:Sf) (h:eqS l F G=true):eqS l G F=true:=by
 induction F generalizing G with
 | nil =>
  cases G with
  | nil=>rfl
  | cons _ _ _ _ _ _ _=>cases h
 | cons k ln nm xs th el r i1 i2 i3 =>
  cases G with
  | nil=>cases h
  | cons k' ln' nm' xs' th' el' r' =>
   simp only [eqS,Bool.and_eq_true,Bool.or_eq_true,beq_iff_eq] at h ⊢
   obtain⟨⟨h1,h2,h3,h4,h5,h6⟩,h7⟩:=h
   exact⟨⟨h1.symm,h2.symm,by rcases h3 with h3 | h3;exact .inl h3;exact .inr h3.symm,eqF_symm _ _ h4,i1 _ h5,i2 _ h6⟩,i3 _ h7⟩
theorem eqS_trans {l:Bool} (F G H:Sf) (h:eqS l F G=true) (k:eqS l G H=true):eqS l F H=true:=by
 induction F generalizing G H with
 | nil =>
  cases G with
  | nil=>exact k
  | cons _ _ _ _ _ _ _=>cases h
 | cons _ _ _ _ _ _ _ i1 i2 i3 =>
  cases G with
  | nil=>cases h
  | cons _ _ _ _ _ _ _ =>
   cases H with
   | nil=>cases k
   | cons _ _ _ _ _ _ _ =>
    simp only [eqS,Bool.and_eq_true,Bool.or_eq_true,beq_iff_eq] at h k ⊢
    obtain⟨⟨h1,h2,h3,h4,h5,h6⟩,h7⟩:=h
    obtain⟨⟨k1,k2,k3,k4,k5,k6⟩,k7⟩:=k
    exact⟨⟨h1.trans k1,h2.trans k2,by rcases h3 with h3 | h3;exact .inl h3;rcases k3 with k3 | k3;exact .inl k3;exact .inr (h3.trans k3),eqF_trans _ _ _ h4 k4,i1 _ _ h5 k5,i2 _ _ h6 k6⟩,i3 _ _ h7 k7⟩
theorem eqS_app {l:Bool} {F F' G G':Sf} (h:eqS l F F'=true) (k:eqS l G G'=true):eqS l (F.app G) (F'.app G')=true:=by
 induction F generalizing F' with
 | nil =>
  cases F' with
  | nil=>exact k
  | cons _ _ _ _ _ _ _=>cases h
 | cons _ _ _ _ _ _ r1 _ _ ih =>
  cases F' with
  | nil=>cases h
  | cons _ _ _ _ _ _ r2 =>
   simp only [eqS,Bool.and_eq_true] at h
   simp only [Sf.app,eqS,Bool.and_eq_true]
   exact⟨h.1,ih h.2⟩
def eqFu (l:Bool) (f g:Fu):Bool:=f.nm==g.nm&&((!l||f.ln==g.ln)&&(f.ps==g.ps&&eqS l f.S g.S))
def eqFs (l:Bool):List Fu->List Fu->Bool
 | [],[]=>true
 | f::fs,g::gs=>eqFu l f g&&eqFs l fs gs
 | _,_=>false
theorem eqFu_refl (l:Bool) (f:Fu):eqFu l f f=true:=by simp [eqFu,eqS_refl]
theorem eqFs_refl (l:Bool) (fs:List Fu):eqFs l fs fs=true:=by
 induction fs with
 | nil=>rfl
 | cons f fs ih=>simp [eqFs,ih,eqFu_refl]
theorem eqFu_symm {l:Bool} {f g:Fu} (h:eqFu l f g=true):eqFu l g f=true:=by
 simp only [eqFu,Bool.and_eq_true,Bool.or_eq_true,beq_iff_eq] at h ⊢
 obtain⟨h1,h2,h3,h4⟩:=h
 exact⟨h1.symm,by rcases h2 with h2 | h2;exact .inl h2;exact .inr h2.symm,h3.symm,eqS_symm _ _ h4⟩
theorem eqFs_symm {l:Bool} {fs gs:List Fu} (h:eqFs l fs gs=true):eqFs l gs fs=true:=by
 induction fs generalizing gs with
 | nil =>
  cases gs with
  | nil=>rfl
  | cons _ _=>cases h
 | cons f fs ih =>
  cases gs with
  | nil=>cases h
  | cons g gs =>
   simp only [eqFs,Bool.and_eq_true] at h ⊢
   exact⟨eqFu_symm h.1,ih h.2⟩
theorem eqFu_trans {l:Bool} {f g i:Fu} (h:eqFu l f g=true) (k:eqFu l g i=true):eqFu l f i=true:=by
 simp only [eqFu,Bool.and_eq_true,Bool.or_eq_true,beq_iff_eq] at h k ⊢
 obtain⟨h1,h2,h3,h4⟩:=h
 obtain⟨k1,k2,k3,k4⟩:=k
 exact⟨h1.trans k1,by rcases h2 with h2 | h2;exact .inl h2;rcases k2 with k2 | k2;exact .inl k2;exact .inr (h2.trans k2),h3.trans k3,eqS_trans _ _ _ h4 k4⟩
theorem eqFs_trans {l:Bool} {fs gs is:List Fu} (h:eqFs l fs gs=true) (k:eqFs l gs is=true):eqFs l fs is=true:=by
 induction fs generalizing gs is with
 | nil =>
  cases gs with
  | nil=>exact k
  | cons _ _=>cases h
 | cons f fs ih =>
  cases gs with
  | nil=>cases h
  | cons g gs =>
   cases is with
   | nil=>cases k
   | cons i is =>
    simp only [eqFs,Bool.and_eq_true] at h k ⊢
    exact⟨eqFu_trans h.1 k.1,ih h.2 k.2⟩
theorem eqFs_app {l:Bool} {fs fs' gs gs':List Fu} (h:eqFs l fs fs'=true) (k:eqFs l gs gs'=true):eqFs l (fs++gs) (fs'++gs')=true:=by
 induction fs generalizing fs' with
 | nil =>
  cases fs' with
  | nil=>exact k
  | cons _ _=>cases h
 | cons f fs ih =>
  cases fs' with
  | nil=>cases h
  | cons f' fs' =>
   simp only [eqFs,Bool.and_eq_true] at h
   simp only [List.cons_append,eqFs,Bool.and_eq_true]
   exact⟨h.1,ih h.2⟩
end Go.Proofs.YtpcdinelpfbpfaaDoor
