/-
  PLAIN LAW: the tokens of the texts that chapter 5's reference writes. No walk. (Filled in from a template of this repo.)
  PLAIN LAW: the tokens of the texts of statements and of sources, and what they cost. No walk. (Filled in from a template of this repo.)
  WALKS of Join (the reference's, and token.Join). (Filled in from a template of this repo.)
  WALK of Same (the reference's), at lists that are the same. (Filled in from a template of this repo.)
  WALK of OddText. (Filled in from a template of this repo, printed by mk_odt.py.)
  WALK of warmpathdraw.Spoilt.
-/
import Derived.Test.YthcagbplolcbpaaDoorMtk
import Derived.Test.YthcagbplolcbpaaDoorMfm
import Derived.Test.YthcagbplolcbpaaDoorMrf
import Derived.Laws.Closers25b
namespace Go.Proofs.YthcagbplolcbpaaDoor
set_option linter.unusedVariables false
set_option linter.unusedSimpArgs false

/-- a token but for its line: kind, value, text -/
abbrev Xt := Int × Int × Bt
/-- from one text the scan comes to another, and takes these tokens -/
def Lx (s r : Bt) (ts : List Xt) : Prop := ∀ (acc : List Tk) (ln : Int), ∃ ys ln2, scF acc s ln = scF (acc ++ ys) r ln2 ∧ unl ys = ts ∧ ∀ x ∈ ys, TokOk x
theorem Lx.refl (s : Bt) : Lx s s [] := fun acc ln => ⟨[], ln, by simp, rfl, by simp⟩
theorem Lx.trans {s m r : Bt} {t1 t2 : List Xt} (h : Lx s m t1) (k : Lx m r t2) : Lx s r (t1 ++ t2) := fun acc ln => by
  obtain ⟨ys, ln2, h1, h2, h3⟩ := h acc ln
  obtain ⟨zs, ln3, k1, k2, k3⟩ := k (acc ++ ys) ln2
  refine ⟨ys ++ zs, ln3, by rw [h1, k1, List.append_assoc], ?_, ?_⟩
  · unfold unl at h2 k2 ⊢
    rw [List.map_append, h2, k2]
  · intro x hx
    rw [List.mem_append] at hx
    rcases hx with hx | hx
    · exact h3 x hx
    · exact k3 x hx
theorem Lx.c32 {s r : Bt} {ts : List Xt} (h : Lx s r ts) : Lx (32 :: s) r ts := fun acc ln => by rw [scF_32]; exact h acc ln
theorem Lx.c9 {s r : Bt} {ts : List Xt} (h : Lx s r ts) : Lx (9 :: s) r ts := fun acc ln => by rw [scF_9]; exact h acc ln
theorem Lx.c10 {s r : Bt} {ts : List Xt} (h : Lx s r ts) : Lx (10 :: s) r ts := fun acc ln => by rw [scF_10]; exact h acc (ln + 1)
theorem Lx.tabs {s r : Bt} {ts : List Xt} (n : Nat) (h : Lx s r ts) : Lx (tabs n ++ s) r ts := by
  induction n with
  | zero => exact h
  | succ n ih => exact Lx.c9 ih
/-- a token and what follows it -/
theorem Lx.tok {b : UInt8} {tt s r : Bt} {k v : Int} {ts : List Xt} (h1 : b.toNat ≠ 10) (h2 : b.toNat ≠ 32) (h3 : b.toNat ≠ 9) (h4 : b.toNat ≠ 35) (hn : nxI (b :: (tt ++ s)) = (k, v, b :: tt, true)) (h : Lx s r ts) :
    Lx (b :: (tt ++ s)) r ((k, v, b :: tt) :: ts) := fun acc ln => by
  have hs := step_of (ln := ln) h1 h2 h3 h4 hn
  obtain ⟨ys, ln2, e1, e2, e3⟩ := h (acc ++ [⟨k, ln, v, b :: tt⟩]) ln
  refine ⟨⟨k, ln, v, b :: tt⟩ :: ys, ln2, ?_, ?_, ?_⟩
  · rw [scF_tok hs]
    show scF _ ((b :: (tt ++ s)).drop (b :: tt).length) ln = _
    rw [← List.cons_append, List.drop_left, e1]
    simp
  · unfold unl at e2 ⊢
    rw [List.map_cons, e2]
  · intro x hx
    rw [List.mem_cons] at hx
    rcases hx with rfl | hx
    · exact ⟨ln, b, tt ++ s, hs⟩
    · exact e3 x hx
/-- nothing that follows belongs to a name or a number -/
def nb (r : Bt) : Prop := ∀ c r2, r = c :: r2 → in8 c = false
theorem sg_b {b c : UInt8} (h : isS [b, c] = true) : b = 60 ∨ b = 61 ∨ b = 33 ∨ b = 38 ∨ b = 124 := by
  simp [isS, signsL] at h
  rcases h with ⟨h, _⟩ | ⟨h, _⟩ | ⟨h, _⟩ | ⟨h, _⟩ | ⟨h, _⟩ <;> simp [h]
theorem nxf_sign {b : UInt8} {s : Bt} (h1 : lt8 b = false) (h2 : dg8 b = false) (hs : isS [b] = true) (h : ∀ c r2, s = c :: r2 → isS [b, c] = false) : nxI (b :: s) = (4, 0, [b], true) := by
  show (if lt8 b then _ else _) = _
  rw [if_neg (by rw [h1]; simp), if_neg (by rw [h2]; simp), if_neg]
  · show (4, 0, [b], isS [b]) = _
    rw [hs]
  · intro ⟨k1, k2⟩
    cases s with
    | nil => simp at k1
    | cons c r2 =>
      have := h c r2 rfl
      rw [show List.take 2 (b :: c :: r2) = [b, c] from rfl, this] at k2
      cases k2
theorem Lx.sg {b : UInt8} {s r : Bt} {ts : List Xt} (hb : b = 40 ∨ b = 41 ∨ b = 123 ∨ b = 125 ∨ b = 91 ∨ b = 93 ∨ b = 44 ∨ b = 59) (h : Lx s r ts) : Lx (b :: s) r ((4, 0, [b]) :: ts) := by
  have hn : nxI (b :: s) = (4, 0, [b], true) := nxf_sign (by rcases hb with rfl | rfl | rfl | rfl | rfl | rfl | rfl | rfl <;> decide) (by rcases hb with rfl | rfl | rfl | rfl | rfl | rfl | rfl | rfl <;> decide) (by rcases hb with rfl | rfl | rfl | rfl | rfl | rfl | rfl | rfl <;> decide) (fun c r2 e => by
    cases hh : isS [b, c] with
    | false => rfl
    | true => exact absurd (sg_b hh) (by rcases hb with rfl | rfl | rfl | rfl | rfl | rfl | rfl | rfl <;> decide))
  exact Lx.tok (tt := []) (by rcases hb with rfl | rfl | rfl | rfl | rfl | rfl | rfl | rfl <;> decide) (by rcases hb with rfl | rfl | rfl | rfl | rfl | rfl | rfl | rfl <;> decide) (by rcases hb with rfl | rfl | rfl | rfl | rfl | rfl | rfl | rfl <;> decide) (by rcases hb with rfl | rfl | rfl | rfl | rfl | rfl | rfl | rfl <;> decide) hn h
/-- a sign that is followed by a blank -/
theorem Lx.sgB {t s r : Bt} {ts : List Xt} (ht : isS t = true) (h : Lx s r ts) : Lx (t ++ (32 :: s)) r ((4, 0, t) :: ts) := by
  have hmem : t ∈ signsL := by unfold isS at ht; simpa using ht
  have key : ∃ b tt, t = b :: tt ∧ b.toNat ≠ 10 ∧ b.toNat ≠ 32 ∧ b.toNat ≠ 9 ∧ b.toNat ≠ 35 ∧ nxI (b :: (tt ++ (32 :: s))) = (4, 0, b :: tt, true) := by
    simp only [signsL, List.mem_cons, List.not_mem_nil, or_false] at hmem
    rcases hmem with rfl | rfl | rfl | rfl | rfl | rfl | rfl | rfl | rfl | rfl | rfl | rfl | rfl | rfl | rfl | rfl | rfl | rfl | rfl | rfl | rfl | rfl <;>
      first
      | exact ⟨_, [], rfl, by decide, by decide, by decide, by decide, nxf_sign (by decide) (by decide) (by decide) (fun c r2 e => by injection e with e _; subst e; decide)⟩
      | exact ⟨_, [_], rfl, by decide, by decide, by decide, by decide, rfl⟩
  obtain ⟨b, tt, rfl, h1, h2, h3, h4, hn⟩ := key
  exact Lx.tok h1 h2 h3 h4 hn (Lx.c32 h)
/-- a name, a word -/
theorem nx_name {b : UInt8} {t s : Bt} (hb : lt8 b = true) (ht : ∀ c ∈ t, in8 c = true) (hl : (b :: t).length ≤ 32) (hs : nb s) : nxI (b :: (t ++ s)) = (if isW (b :: t) then 3 else 1, 0, b :: t, true) := by
  have hin : in8 b = true := by unfold in8; rw [hb]; rfl
  have hrun : run in8 (b :: (t ++ s)) = b :: t := by
    rw [← List.cons_append, run_app (fun c hc => by rw [List.mem_cons] at hc; rcases hc with rfl | hc; exact hin; exact ht c hc), run_stop hs, List.append_nil]
  show (if lt8 b then _ else _) = _
  rw [if_pos hb]
  show (if isW (run in8 (b :: (t ++ s))) then 3 else 1, 0, run in8 (b :: (t ++ s)), decide ((run in8 (b :: (t ++ s))).length ≤ 32)) = _
  rw [hrun, decide_eq_true hl]
theorem lt8_ne {b : UInt8} (h : in8 b = true) : b.toNat ≠ 10 ∧ b.toNat ≠ 32 ∧ b.toNat ≠ 9 ∧ b.toNat ≠ 35 ∧ b.toNat ≠ 61 ∧ b.toNat ≠ 38 ∧ b.toNat ≠ 124 := by
  unfold in8 lt8 dg8 at h
  simp at h
  omega
theorem lt8_in {b : UInt8} (h : lt8 b = true) : in8 b = true := by unfold in8; rw [h]; rfl
theorem Lx.name {nm s r : Bt} {ts : List Xt} (hn : okN nm) (hs : nb s) (h : Lx s r ts) : Lx (nm ++ s) r ((1, 0, nm) :: ts) := by
  obtain ⟨b, t, rfl, h1, h2, h3, h4⟩ := hn
  have e := nx_name (s := s) h1 h2 (by omega) hs
  rw [h3] at e
  obtain ⟨q1, q2, q3, q4, _⟩ := lt8_ne (lt8_in h1)
  exact Lx.tok q1 q2 q3 q4 e h
theorem Lx.word {w s r : Bt} {ts : List Xt} (hw : isW w = true) (hs : nb s) (h : Lx s r ts) : Lx (w ++ s) r ((3, 0, w) :: ts) := by
  have hmem : w ∈ wordsL := by unfold isW at hw; simpa using hw
  have key : ∃ b t, w = b :: t ∧ lt8 b = true ∧ (∀ c ∈ t, in8 c = true) ∧ (b :: t).length ≤ 32 := by
    simp only [wordsL, List.mem_cons, List.not_mem_nil, or_false] at hmem
    rcases hmem with rfl | rfl | rfl | rfl | rfl | rfl | rfl | rfl | rfl | rfl <;> exact ⟨_, _, rfl, by decide, by decide, by decide⟩
  obtain ⟨b, t, rfl, h1, h2, h3⟩ := key
  have e := nx_name (s := s) h1 h2 h3 hs
  rw [hw] at e
  obtain ⟨q1, q2, q3, q4, _⟩ := lt8_ne (lt8_in h1)
  exact Lx.tok q1 q2 q3 q4 e h
/-- numbers -/
theorem dec_all (n : Nat) : allD (Lib.decDigits n) ∧ decN (Lib.decDigits n) = n := by
  induction n using Nat.strongRecOn with
  | _ n ih =>
    rw [Lib.decDigits]
    split
    · rename_i h
      have e : (UInt8.ofNat (48 + n)).toNat = 48 + n := by simp; omega
      refine ⟨?_, ?_⟩
      · intro c hc
        rw [List.mem_singleton] at hc
        subst hc
        omega
      · show decF 0 [_] = n
        rw [decF_cons, decF_nil, e]; omega
    · rename_i h
      obtain ⟨h1, h2⟩ := ih (n / 10) (by omega)
      have e : (UInt8.ofNat (48 + n % 10)).toNat = 48 + n % 10 := by simp; omega
      refine ⟨?_, ?_⟩
      · intro c hc
        rw [List.mem_append, List.mem_singleton] at hc
        rcases hc with hc | rfl
        · exact h1 c hc
        · omega
      · show decF 0 (_ ++ [_]) = n
        rw [decF_push, show decF 0 (Lib.decDigits (n / 10)) = n / 10 from h2, e]; omega
theorem dec_ne (n : Nat) : ∃ c r, Lib.decDigits n = c :: r ∧ dg8 c = true := by
  obtain ⟨h1, _⟩ := dec_all n
  cases h : Lib.decDigits n with
  | nil =>
    rw [Lib.decDigits] at h
    split at h <;> simp at h
  | cons c r =>
    rw [h] at h1
    exact ⟨c, r, rfl, by have := h1 c (by simp); unfold dg8; simp; exact this⟩
theorem Lx.num {n : Nat} {s r : Bt} {ts : List Xt} (hn : n ≤ 9223372036854775807) (hs : nb s) (h : Lx s r ts) : Lx (Lib.decDigits n ++ s) r ((2, n, Lib.decDigits n) :: ts) := by
  obtain ⟨h1, h2⟩ := dec_all n
  obtain ⟨c, t, hc, hd⟩ := dec_ne n
  have hall : ∀ x ∈ Lib.decDigits n, dg8 x = true := fun x hx => by have := h1 x hx; unfold dg8; simp; exact this
  have hsd : ∀ c r2, s = c :: r2 → dg8 c = false := fun c r2 e => by
    have := hs c r2 e
    unfold in8 at this
    cases hh : dg8 c with
    | false => rfl
    | true => rw [hh] at this; simp at this
  have hrun : run dg8 (Lib.decDigits n ++ s) = Lib.decDigits n := by rw [run_app hall, run_stop hsd, List.append_nil]
  have hrin : run in8 (Lib.decDigits n ++ s) = Lib.decDigits n := by rw [run_app (fun x hx => dg_in (hall x hx)), run_stop hs, List.append_nil]
  have ha : Lib.atoiAll (Lib.decDigits n) = .ok (n : Int) := by
    rw [atoi_dec _ h1 (by rw [hc]; simp), h2, if_pos (by omega)]
  have hlt : lt8 c = false := by
    cases hh : lt8 c with
    | false => rfl
    | true =>
      unfold dg8 at hd
      unfold lt8 at hh
      simp at hd hh
      omega
  have e := nx_digits2 (b := c) (r := t ++ s) hlt hd
  rw [← List.cons_append, ← hc, hrun, hrin, ha] at e
  have e2 : nxI (Lib.decDigits n ++ s) = (2, (n : Int), Lib.decDigits n, true) := by
    rw [e]
    simp [Lib.itoa_nonneg]
  rw [hc, List.cons_append] at e2
  rw [hc, List.cons_append]
  obtain ⟨q1, q2, q3, q4, _⟩ := lt8_ne (dg_in hd)
  exact Lx.tok q1 q2 q3 q4 e2 h
/-- what the tokens of a list cost -/
def xlen : List Xt → Nat
  | [] => 0
  | x :: l => x.2.2.length + 20 + xlen l
theorem xlen_app (a b : List Xt) : xlen (a ++ b) = xlen a + xlen b := by
  induction a with
  | nil => simp [xlen]
  | cons x a ih => simp only [List.cons_append, xlen, ih]; omega
theorem xlen_unl (l : List Tk) : xlen (unl l) = tkLen 20 l := by
  induction l with
  | nil => rfl
  | cons x l ih =>
    unfold unl at ih ⊢
    simp only [List.map_cons, xlen, tkLen, ih]
abbrev sgX (t : Bt) : Xt := (4, 0, t)
abbrev wdX (t : Bt) : Xt := (3, 0, t)
abbrev nmX (t : Bt) : Xt := (1, 0, t)
/-- the tokens of expressions -/
def parX (s : List Xt) : List Xt := sgX [40] :: (s ++ [sgX [41]])
def opdX (h : Hd) (s : List Xt) : List Xt := if cmpd h = true then parX s else s
def commX : List (List Xt) → List Xt
  | [] => []
  | [s] => s
  | s :: r => s ++ (sgX [44] :: commX r)
def listX (ss : List (List Xt)) : List Xt := parX (commX ss)
def tok1 (h : Hd) (os : List (Hd × List Xt)) : List Xt :=
  if h.k = 1 then [(2, h.v, Lib.decDigits h.v.toNat)]
  else if h.k = 13 ∨ h.k = 2 ∨ h.k = 3 then [nmX h.nm]
  else if h.k = 12 then [wdX [114, 101, 97, 100]]
  else if h.k = 11 then [sgX [38], nmX h.nm]
  else if h.k = 4 then (match os with | [a] => nmX h.nm :: sgX [91] :: (a.2 ++ [sgX [93]]) | _ => [])
  else if h.k = 5 then (match os with | [a] => sgX (sgn h.op) :: opdX a.1 a.2 | _ => [])
  else if h.k = 6 then (match os with | [a, b] => opdX a.1 a.2 ++ (sgX (sgn h.op) :: opdX b.1 b.2) | _ => [])
  else if h.k = 7 then (match os with | [a, b] => opdX a.1 a.2 ++ (sgX [38, 38] :: opdX b.1 b.2) | _ => [])
  else if h.k = 8 then (match os with | [a, b] => opdX a.1 a.2 ++ (sgX [124, 124] :: opdX b.1 b.2) | _ => [])
  else if h.k = 9 then nmX h.nm :: listX (os.map (·.2))
  else if h.k = 10 then (match os with | a :: r => (if a.1.k = 13 ∨ a.1.k = 2 ∨ a.1.k = 3 then parX (opdX a.1 a.2) else opdX a.1 a.2) ++ listX (r.map (·.2)) | [] => [])
  else []
def toks : Fo → List (Hd × List Xt)
  | .nil => []
  | .cons h ar r => (h, tok1 h (toks ar)) :: toks r
abbrev tokE (h : Hd) (ar : Fo) : List Xt := tok1 h (toks ar)
theorem toks_get (F : Fo) (j : Nat) (x : Hd × Fo) (h : F.get j = some x) : (toks F)[j]? = some (x.1, tokE x.1 x.2) := by
  induction F generalizing j with
  | nil => cases h
  | cons hd ar r _ ih =>
    cases j with
    | zero =>
      have e : (hd, ar) = x := by injection h
      subst e; rfl
    | succ j => exact ih j h
/-- the first byte of a text, which no sign takes for its own second -/
def hd1 (s : Bt) : Prop := ∃ c r, s = c :: r ∧ c ≠ 61
/-- one expression is scanned to its tokens -/
def LxE (h : Hd) (ar : Fo) : Prop := (∀ s r ts, nb s → Lx s r ts → Lx (fmtE h ar ++ s) r (tokE h ar ++ ts)) ∧ hd1 (fmtE h ar)
theorem nb_of {c : UInt8} {s : Bt} (h : in8 c = false) : nb (c :: s) := fun d r2 e => by injection e with e _; subst e; exact h
theorem LxE.opr {h : Hd} {ar : Fo} (k : LxE h ar) : (∀ s r ts, nb s → Lx s r ts → Lx (opd h (fmtE h ar) ++ s) r (opdX h (tokE h ar) ++ ts)) ∧ hd1 (opd h (fmtE h ar)) := by
  unfold Go.Proofs.YthcagbplolcbpaaDoor.opd opdX
  by_cases hc : cmpd h = true
  · rw [if_pos hc, if_pos hc]
    refine ⟨fun s r ts hs hx => ?_, 40, _, rfl, by decide⟩
    unfold paren parX
    simp only [List.cons_append, List.append_assoc, List.nil_append]
    exact Lx.sg (by simp) (k.1 _ _ _ (nb_of (by decide)) (Lx.sg (by simp) hx))
  · rw [if_neg hc, if_neg hc]
    exact k
theorem LxE.par {h : Hd} {ar : Fo} (k : LxE h ar) {s r : Bt} {ts : List Xt} (hx : Lx s r ts) : Lx (paren (Go.Proofs.YthcagbplolcbpaaDoor.opd h (fmtE h ar)) ++ s) r (parX (opdX h (tokE h ar)) ++ ts) := by
  unfold paren parX
  simp only [List.cons_append, List.append_assoc, List.nil_append]
  exact Lx.sg (by simp) (k.opr.1 _ _ _ (nb_of (by decide)) (Lx.sg (by simp) hx))
theorem Lx.comm (F : Fo) (hF : ∀ j x, F.get j = some x → LxE x.1 x.2) : ∀ s r ts, nb s → Lx s r ts → Lx (comm ((fmts F).map (·.2)) ++ s) r (commX ((toks F).map (·.2)) ++ ts) := by
  induction F with
  | nil => intro s r ts _ hx; exact hx
  | cons h ar R _ ih =>
    intro s r ts hs hx
    have h0 := hF 0 (h, ar) rfl
    have ih := ih (fun j x hj => hF (j + 1) x hj)
    cases R with
    | nil => exact h0.1 _ _ _ hs hx
    | cons h2 ar2 R2 =>
      show Lx ((fmtE h ar ++ ([44, 32] ++ Go.Proofs.YthcagbplolcbpaaDoor.comm ((fmts (.cons h2 ar2 R2)).map (·.2)))) ++ s) r ((tokE h ar ++ (sgX [44] :: commX ((toks (.cons h2 ar2 R2)).map (·.2)))) ++ ts)
      simp only [List.append_assoc, List.cons_append, List.nil_append]
      exact h0.1 _ _ _ (nb_of (by decide)) (Lx.sg (by simp) (Lx.c32 (ih s r ts hs hx)))
theorem Lx.list (F : Fo) (hF : ∀ j x, F.get j = some x → LxE x.1 x.2) {s r : Bt} {ts : List Xt} (hx : Lx s r ts) : Lx (listB ((fmts F).map (·.2)) ++ s) r (listX ((toks F).map (·.2)) ++ ts) := by
  unfold listB listX paren parX
  simp only [List.cons_append, List.append_assoc, List.nil_append]
  exact Lx.sg (by simp) (Lx.comm F hF _ _ _ (nb_of (by decide)) (Lx.sg (by simp) hx))
theorem hd1.app {s t : Bt} (h : hd1 s) : hd1 (s ++ t) := by
  obtain ⟨c, r, rfl, h⟩ := h
  exact ⟨c, r ++ t, rfl, h⟩
theorem okN.hd {nm : Bt} (h : okN nm) : hd1 nm := by
  obtain ⟨b, t, rfl, h1, _⟩ := h
  exact ⟨b, t, rfl, fun e => by subst e; exact absurd h1 (by decide)⟩
theorem okN.amp {nm s : Bt} (h : okN nm) : ∀ c r2, nm ++ s = c :: r2 → isS [38, c] = false := by
  obtain ⟨b, t, rfl, h1, _⟩ := h
  intro c r2 e
  rw [List.cons_append] at e
  injection e with e _
  subst e
  cases hh : isS [38, b] with
  | false => rfl
  | true =>
    have := isS_two hh
    rcases this with rfl | rfl | rfl <;> exact absurd h1 (by decide)
theorem hd1.un {s t : Bt} {b : UInt8} (hb : b = 45 ∨ b = 33) (h : hd1 s) : ∀ c r2, s ++ t = c :: r2 → isS [b, c] = false := by
  obtain ⟨d, r, rfl, hd⟩ := h
  intro c r2 e
  rw [List.cons_append] at e
  injection e with e _
  subst e
  cases hh : isS [b, d] with
  | false => rfl
  | true =>
    simp [isS, signsL] at hh
    rcases hb with rfl | rfl
    · simp at hh
    · simp at hh; exact absurd hh hd
theorem sgn_S {op : Int} (h3 : 3 ≤ op) (h11 : op ≤ 11) : isS (sgn op) = true := by
  have : op = 3 ∨ op = 4 ∨ op = 5 ∨ op = 6 ∨ op = 7 ∨ op = 8 ∨ op = 9 ∨ op = 10 ∨ op = 11 := by omega
  rcases this with rfl | rfl | rfl | rfl | rfl | rfl | rfl | rfl | rfl <;> decide
theorem sgn_un {op : Int} (h3 : 1 ≤ op) (h11 : op ≤ 2) : ∃ b, sgn op = [b] ∧ (b = 45 ∨ b = 33) := by
  have : op = 1 ∨ op = 2 := by omega
  rcases this with rfl | rfl
  · exact ⟨45, rfl, .inl rfl⟩
  · exact ⟨33, rfl, .inr rfl⟩
theorem Fo.one {F : Fo} (h : F.len = 1) : ∃ x : Hd × Fo, F.get 0 = some x ∧ fmts F = [(x.1, fmtE x.1 x.2)] ∧ toks F = [(x.1, tokE x.1 x.2)] := by
  cases F with
  | nil => simp [Fo.len] at h
  | cons h1 a1 r =>
    cases r with
    | nil => exact ⟨(h1, a1), rfl, rfl, rfl⟩
    | cons h2 a2 r => simp [Fo.len] at h
theorem Fo.two {F : Fo} (h : F.len = 2) : ∃ x y : Hd × Fo, F.get 0 = some x ∧ F.get 1 = some y ∧ fmts F = [(x.1, fmtE x.1 x.2), (y.1, fmtE y.1 y.2)] ∧ toks F = [(x.1, tokE x.1 x.2), (y.1, tokE y.1 y.2)] := by
  cases F with
  | nil => simp [Fo.len] at h
  | cons h1 a1 r =>
    cases r with
    | nil => simp [Fo.len] at h
    | cons h2 a2 r =>
      cases r with
      | nil => exact ⟨(h1, a1), (h2, a2), rfl, rfl, rfl, rfl⟩
      | cons h3 a3 r => simp [Fo.len] at h
theorem LxE.one (h : Hd) (ar : Fo) (hok : okH h ar) (hF : ∀ j x, ar.get j = some x → LxE x.1 x.2) : LxE h ar := by
  rcases hok with ⟨_, _, k⟩ | ⟨_, k, _, k0, k1, _⟩ | ⟨_, _, k⟩
  · rcases k with ⟨k, hn, _⟩ | ⟨k, _⟩ | ⟨k, hn, _⟩ | ⟨k, hn, hl⟩ | ⟨k, _, hl⟩ | ⟨k, hn, hl⟩ | ⟨k, _, g, bs, r0, rfl, hg, hr⟩
    · have e1 : fmtE h ar = h.nm := by show fmt1 h _ = _; unfold fmt1; simp [k]
      have e2 : tokE h ar = [nmX h.nm] := by show tok1 h _ = _; unfold tok1; simp [k]
      refine ⟨fun s r ts hs hx => ?_, by rw [e1]; exact hn.hd⟩
      rw [e1, e2]
      exact Lx.name hn hs hx
    · have e1 : fmtE h ar = [114, 101, 97, 100] := by show fmt1 h _ = _; unfold fmt1; simp [k]
      have e2 : tokE h ar = [wdX [114, 101, 97, 100]] := by show tok1 h _ = _; unfold tok1; simp [k]
      refine ⟨fun s r ts hs hx => ?_, by rw [e1]; exact ⟨_, _, rfl, by decide⟩⟩
      rw [e1, e2]
      exact Lx.word (by decide) hs hx
    · have e1 : fmtE h ar = 38 :: h.nm := by show fmt1 h _ = _; unfold fmt1; simp [k]
      have e2 : tokE h ar = [sgX [38], nmX h.nm] := by show tok1 h _ = _; unfold tok1; simp [k]
      refine ⟨fun s r ts hs hx => ?_, by rw [e1]; exact ⟨_, _, rfl, by decide⟩⟩
      rw [e1, e2]
      exact Lx.tok (tt := []) (by decide) (by decide) (by decide) (by decide) (nxf_sign (by decide) (by decide) (by decide) hn.amp) (Lx.name hn hs hx)
    · obtain ⟨x, hx0, f1, t1⟩ := Fo.one hl
      have e1 : fmtE h ar = h.nm ++ ([91] ++ (fmtE x.1 x.2 ++ [93])) := by show fmt1 h _ = _; rw [f1]; unfold fmt1; simp [k]
      have e2 : tokE h ar = nmX h.nm :: sgX [91] :: (tokE x.1 x.2 ++ [sgX [93]]) := by show tok1 h _ = _; rw [t1]; unfold tok1; simp [k]
      refine ⟨fun s r ts hs hx => ?_, by rw [e1]; exact hn.hd.app⟩
      rw [e1, e2]
      simp only [List.append_assoc, List.cons_append, List.nil_append]
      exact Lx.name hn (nb_of (by decide)) (Lx.sg (by simp) ((hF 0 x hx0).1 _ _ _ (nb_of (by decide)) (Lx.sg (by simp) hx)))
    · obtain ⟨x, y, hx0, hy0, f1, t1⟩ := Fo.two hl
      rcases k with k | k
      · have e1 : fmtE h ar = opd x.1 (fmtE x.1 x.2) ++ ([32, 38, 38, 32] ++ opd y.1 (fmtE y.1 y.2)) := by show fmt1 h _ = _; rw [f1]; unfold fmt1; simp [k]
        have e2 : tokE h ar = opdX x.1 (tokE x.1 x.2) ++ (sgX [38, 38] :: opdX y.1 (tokE y.1 y.2)) := by show tok1 h _ = _; rw [t1]; unfold tok1; simp [k]
        refine ⟨fun s r ts hs hx => ?_, by rw [e1]; exact (hF 0 x hx0).opr.2.app⟩
        rw [e1, e2]
        simp only [List.append_assoc, List.cons_append, List.nil_append]
        exact (hF 0 x hx0).opr.1 _ _ _ (nb_of (by decide)) (Lx.c32 (Lx.sgB (t := [38, 38]) (by decide) ((hF 1 y hy0).opr.1 _ _ _ hs hx)))
      · have e1 : fmtE h ar = opd x.1 (fmtE x.1 x.2) ++ ([32, 124, 124, 32] ++ opd y.1 (fmtE y.1 y.2)) := by show fmt1 h _ = _; rw [f1]; unfold fmt1; simp [k]
        have e2 : tokE h ar = opdX x.1 (tokE x.1 x.2) ++ (sgX [124, 124] :: opdX y.1 (tokE y.1 y.2)) := by show tok1 h _ = _; rw [t1]; unfold tok1; simp [k]
        refine ⟨fun s r ts hs hx => ?_, by rw [e1]; exact (hF 0 x hx0).opr.2.app⟩
        rw [e1, e2]
        simp only [List.append_assoc, List.cons_append, List.nil_append]
        exact (hF 0 x hx0).opr.1 _ _ _ (nb_of (by decide)) (Lx.c32 (Lx.sgB (t := [124, 124]) (by decide) ((hF 1 y hy0).opr.1 _ _ _ hs hx)))
    · have e1 : fmtE h ar = h.nm ++ listB ((fmts ar).map (·.2)) := by show fmt1 h _ = _; unfold fmt1; simp [k]
      have e2 : tokE h ar = nmX h.nm :: listX ((toks ar).map (·.2)) := by show tok1 h _ = _; unfold tok1; simp [k]
      refine ⟨fun s r ts hs hx => ?_, by rw [e1]; exact hn.hd.app⟩
      rw [e1, e2]
      simp only [List.append_assoc, List.cons_append, List.nil_append]
      exact Lx.name hn (nb_of (by decide)) (Lx.list ar hF hx)
    · have h0 := hF 0 (g, bs) rfl
      by_cases hk : g.k = 13 ∨ g.k = 2 ∨ g.k = 3
      · have e1 : fmtE h (.cons g bs r0) = paren (opd g (fmtE g bs)) ++ listB ((fmts r0).map (·.2)) := by show fmt1 h ((g, fmtE g bs) :: fmts r0) = _; unfold fmt1; simp [k, hk]
        have e2 : tokE h (.cons g bs r0) = parX (opdX g (tokE g bs)) ++ listX ((toks r0).map (·.2)) := by show tok1 h ((g, tokE g bs) :: toks r0) = _; unfold tok1; simp [k, hk]
        refine ⟨fun s r ts hs hx => ?_, by rw [e1]; exact hd1.app ⟨40, _, rfl, by decide⟩⟩
        rw [e1, e2]
        simp only [List.append_assoc]
        exact h0.par (Lx.list r0 (fun j y hy => hF (j + 1) y hy) hx)
      · have e1 : fmtE h (.cons g bs r0) = opd g (fmtE g bs) ++ listB ((fmts r0).map (·.2)) := by show fmt1 h ((g, fmtE g bs) :: fmts r0) = _; unfold fmt1; simp [k, hk]
        have e2 : tokE h (.cons g bs r0) = opdX g (tokE g bs) ++ listX ((toks r0).map (·.2)) := by show tok1 h ((g, tokE g bs) :: toks r0) = _; unfold tok1; simp [k, hk]
        refine ⟨fun s r ts hs hx => ?_, by rw [e1]; exact h0.opr.2.app⟩
        rw [e1, e2]
        simp only [List.append_assoc]
        exact h0.opr.1 _ _ _ (nb_of (by decide)) (Lx.list r0 (fun j y hy => hF (j + 1) y hy) hx)
  · have e1 : fmtE h ar = Lib.decDigits h.v.toNat := by show fmt1 h _ = _; unfold fmt1; simp [k]
    have e2 : tokE h ar = [(2, h.v, Lib.decDigits h.v.toNat)] := by show tok1 h _ = _; unfold tok1; simp [k]
    obtain ⟨z, hz⟩ : ∃ z : Nat, h.v = z := Int.eq_ofNat_of_zero_le k0
    rw [hz] at e1 e2 k1
    rw [Int.toNat_natCast] at e1 e2
    refine ⟨fun s r ts hs hx => ?_, ?_⟩
    · rw [e1, e2]
      exact Lx.num (by omega) hs hx
    · rw [e1]
      obtain ⟨c, r, hc, hd⟩ := dec_ne z
      exact ⟨c, r, hc, fun e => by subst e; exact absurd hd (by decide)⟩
  · rcases k with ⟨k, o1, o2, hl⟩ | ⟨k, o1, o2, hl⟩
    · obtain ⟨x, hx0, f1, t1⟩ := Fo.one hl
      obtain ⟨b, hb, hbb⟩ := sgn_un o1 o2
      have h0 := (hF 0 x hx0).opr
      have e1 : fmtE h ar = b :: opd x.1 (fmtE x.1 x.2) := by show fmt1 h _ = _; rw [f1]; unfold fmt1; simp [k, hb]
      have e2 : tokE h ar = sgX [b] :: opdX x.1 (tokE x.1 x.2) := by show tok1 h _ = _; rw [t1]; unfold tok1; simp [k, hb]
      refine ⟨fun s r ts hs hx => ?_, by rw [e1]; exact ⟨b, _, rfl, by rcases hbb with rfl | rfl <;> decide⟩⟩
      rw [e1, e2]
      simp only [List.cons_append]
      exact Lx.tok (tt := []) (by rcases hbb with rfl | rfl <;> decide) (by rcases hbb with rfl | rfl <;> decide) (by rcases hbb with rfl | rfl <;> decide) (by rcases hbb with rfl | rfl <;> decide)
        (nxf_sign (s := opd x.1 (fmtE x.1 x.2) ++ s) (by rcases hbb with rfl | rfl <;> decide) (by rcases hbb with rfl | rfl <;> decide) (by rcases hbb with rfl | rfl <;> decide) (h0.2.un hbb)) (h0.1 _ _ _ hs hx)
    · obtain ⟨x, y, hx0, hy0, f1, t1⟩ := Fo.two hl
      have e1 : fmtE h ar = opd x.1 (fmtE x.1 x.2) ++ ([32] ++ (sgn h.op ++ ([32] ++ opd y.1 (fmtE y.1 y.2)))) := by show fmt1 h _ = _; rw [f1]; unfold fmt1; simp [k]
      have e2 : tokE h ar = opdX x.1 (tokE x.1 x.2) ++ (sgX (sgn h.op) :: opdX y.1 (tokE y.1 y.2)) := by show tok1 h _ = _; rw [t1]; unfold tok1; simp [k]
      refine ⟨fun s r ts hs hx => ?_, by rw [e1]; exact (hF 0 x hx0).opr.2.app⟩
      rw [e1, e2]
      simp only [List.append_assoc, List.cons_append, List.nil_append]
      exact (hF 0 x hx0).opr.1 _ _ _ (nb_of (by decide)) (Lx.c32 (Lx.sgB (sgn_S o1 o2) ((hF 1 y hy0).opr.1 _ _ _ hs hx)))
theorem LxE.all (F : Fo) (hw : F.wf) : ∀ j x, F.get j = some x → LxE x.1 x.2 := by
  induction F with
  | nil => intro j x hx; cases hx
  | cons h ar r ih1 ih2 =>
    intro j x hx
    cases j with
    | zero =>
      have e : (h, ar) = x := by injection hx
      subst e
      exact LxE.one h ar hw.1 (ih1 hw.2.2.1)
    | succ j => exact ih2 hw.2.2.2 j x hx
end Go.Proofs.YthcagbplolcbpaaDoor
namespace Go.Proofs.YthcagbplolcbpaaDoor
set_option linter.unusedVariables false
set_option linter.unusedSimpArgs false

/-- the tokens of a statement's expression -/
def valX (xs : Fo) (i : Nat) : List Xt := match (toks xs)[i]? with | some a => a.2 | none => []
def tokS : Sf → List Xt
  | .nil => []
  | .cons k _ nm xs th el r =>
    (if k = 1 then wdX [118, 97, 114] :: nmX nm :: sgX [61] :: (valX xs 0 ++ [sgX [59]])
      else if k = 2 then nmX nm :: sgX [61] :: (valX xs 0 ++ [sgX [59]])
      else if k = 3 then nmX nm :: sgX [91] :: (valX xs 0 ++ (sgX [93] :: sgX [61] :: (valX xs 1 ++ [sgX [59]])))
      else if k = 6 then wdX [114, 101, 116, 117, 114, 110] :: (valX xs 0 ++ [sgX [59]])
      else if k = 7 then wdX [112, 114, 105, 110, 116] :: (valX xs 0 ++ [sgX [59]])
      else if k = 8 then wdX [99, 97, 108, 108] :: (valX xs 0 ++ [sgX [59]])
      else if k = 5 then wdX [119, 104, 105, 108, 101] :: (valX xs 0 ++ (sgX [123] :: (tokS th ++ [sgX [125]])))
      else if k = 4 then wdX [105, 102] :: (valX xs 0 ++ (sgX [123] :: (tokS th ++ (sgX [125] ::
        (if el.len = 0 then [] else wdX [101, 108, 115, 101] :: sgX [123] :: (tokS el ++ [sgX [125]]))))))
      else []) ++ tokS r
theorem valF_Lx (xs : Fo) (hw : xs.wf) (i : Nat) (hi : i < xs.len) {s r : Bt} {ts : List Xt} (hs : nb s) (hx : Lx s r ts) : Lx (valF xs i ++ s) r (valX xs i ++ ts) := by
  obtain ⟨x, hg⟩ := Fo.get_lt hi
  unfold valF valX
  rw [fmts_get xs i x hg, toks_get xs i x hg]
  exact (LxE.all xs hw i x hg).1 s r ts hs hx
theorem fmtS_Lx (S : Sf) (hw : S.wf) : ∀ (n : Nat) (s r : Bt) (ts : List Xt), Lx s r ts → Lx (fmtS S n ++ s) r (tokS S ++ ts) := by
  induction S with
  | nil => intro n s r ts hx; exact hx
  | cons k ln nm xs th el R ih1 ih2 ih3 =>
    intro n s r ts hx
    obtain ⟨hok, _, hxs, ht, he, hr⟩ := hw
    have i1 := ih1 ht
    have i2 := ih2 he
    have i3 := Lx.c10 (ih3 hr n s r ts hx)
    have v0 : 0 < xs.len → ∀ {s r : Bt} {ts : List Xt}, nb s → Lx s r ts → Lx (valF xs 0 ++ s) r (valX xs 0 ++ ts) := fun h => fun hs hx => valF_Lx xs hxs 0 h hs hx
    have v1 : 1 < xs.len → ∀ {s r : Bt} {ts : List Xt}, nb s → Lx s r ts → Lx (valF xs 1 ++ s) r (valX xs 1 ++ ts) := fun h => fun hs hx => valF_Lx xs hxs 1 h hs hx
    have n32 : ∀ s : Bt, nb (32 :: s) := fun s => nb_of (by decide)
    have n59 : ∀ s : Bt, nb (59 :: s) := fun s => nb_of (by decide)
    have n91 : ∀ s : Bt, nb (91 :: s) := fun s => nb_of (by decide)
    have n93 : ∀ s : Bt, nb (93 :: s) := fun s => nb_of (by decide)
    have s59 : ∀ {s r : Bt} {ts : List Xt}, Lx s r ts → Lx (59 :: s) r (sgX [59] :: ts) := fun h => Lx.sg (by simp) h
    have s91 : ∀ {s r : Bt} {ts : List Xt}, Lx s r ts → Lx (91 :: s) r (sgX [91] :: ts) := fun h => Lx.sg (by simp) h
    have s93 : ∀ {s r : Bt} {ts : List Xt}, Lx s r ts → Lx (93 :: s) r (sgX [93] :: ts) := fun h => Lx.sg (by simp) h
    have s123 : ∀ {s r : Bt} {ts : List Xt}, Lx s r ts → Lx (123 :: s) r (sgX [123] :: ts) := fun h => Lx.sg (by simp) h
    have s125 : ∀ {s r : Bt} {ts : List Xt}, Lx s r ts → Lx (125 :: s) r (sgX [125] :: ts) := fun h => Lx.sg (by simp) h
    have s61 : ∀ {s r : Bt} {ts : List Xt}, Lx s r ts → Lx (61 :: 32 :: s) r (sgX [61] :: ts) := fun h => Lx.sgB (t := [61]) (by decide) h
    rw [fmtS_cons]
    unfold body1 tokS
    rcases hok with ⟨hk, hn, hl, _⟩ | ⟨hk, hn, hl, _⟩ | ⟨hk, hn, hl⟩ | ⟨hk, hn, hl, _⟩ | ⟨hk, hn, hl, _⟩ | ⟨hk, hn, _, _, hh, har, hl, _⟩
    · rcases hk with hk | hk
      · simp [hk, List.append_assoc]
        exact Lx.tabs n (Lx.word (w := [118, 97, 114]) (by decide) (n32 _) (Lx.c32 (Lx.name hn (n32 _) (Lx.c32 (s61 (v0 (by omega) (n59 _) (s59 i3)))))))
      · simp [hk, List.append_assoc]
        exact Lx.tabs n (Lx.name hn (n32 _) (Lx.c32 (s61 (v0 (by omega) (n59 _) (s59 i3)))))
    · simp [hk, List.append_assoc]
      exact Lx.tabs n (Lx.name hn (n91 _) (s91 (v0 (by omega) (n93 _) (s93 (Lx.c32 (s61 (v1 (by omega) (n59 _) (s59 i3))))))))
    · by_cases hz : el.len = 0
      · simp [hk, hz, List.append_assoc]
        exact Lx.tabs n (Lx.word (w := [105, 102]) (by decide) (n32 _) (Lx.c32 (v0 (by omega) (n32 _) (Lx.c32 (s123 (Lx.c10 (i1 (n + 1) _ _ _ (Lx.tabs n (s125 i3)))))))))
      · simp [hk, hz, List.append_assoc]
        exact Lx.tabs n (Lx.word (w := [105, 102]) (by decide) (n32 _) (Lx.c32 (v0 (by omega) (n32 _) (Lx.c32 (s123 (Lx.c10 (i1 (n + 1) _ _ _ (Lx.tabs n (s125 (Lx.c32 (Lx.word (w := [101, 108, 115, 101]) (by decide) (n32 _) (Lx.c32 (s123 (Lx.c10 (i2 (n + 1) _ _ _ (Lx.tabs n (s125 i3)))))))))))))))))
    · simp [hk, List.append_assoc]
      exact Lx.tabs n (Lx.word (w := [119, 104, 105, 108, 101]) (by decide) (n32 _) (Lx.c32 (v0 (by omega) (n32 _) (Lx.c32 (s123 (Lx.c10 (i1 (n + 1) _ _ _ (Lx.tabs n (s125 i3)))))))))
    · rcases hk with hk | hk
      · simp [hk, List.append_assoc]
        exact Lx.tabs n (Lx.word (w := [114, 101, 116, 117, 114, 110]) (by decide) (n32 _) (Lx.c32 (v0 (by omega) (n59 _) (s59 i3))))
      · simp [hk, List.append_assoc]
        exact Lx.tabs n (Lx.word (w := [112, 114, 105, 110, 116]) (by decide) (n32 _) (Lx.c32 (v0 (by omega) (n59 _) (s59 i3))))
    · have hl1 : 0 < xs.len := by rw [hl]; simp [Fo.len]
      simp [hk, List.append_assoc]
      exact Lx.tabs n (Lx.word (w := [99, 97, 108, 108]) (by decide) (n32 _) (Lx.c32 (v0 hl1 (n59 _) (s59 i3))))
/-- what tokens cost -/
def xtot : List (Hd × List Xt) → Nat
  | [] => 0
  | a :: r => xlen a.2 + xtot r
theorem opdX_len (h : Hd) (s : List Xt) : xlen (opdX h s) ≤ xlen s + 42 := by
  unfold opdX parX
  split
  · simp [xlen, xlen_app]; omega
  · omega
theorem commX_len (os : List (Hd × List Xt)) : xlen (commX (os.map (·.2))) ≤ xtot os + 21 * (os.length - 1) := by
  induction os with
  | nil => simp [commX, xlen]
  | cons a r ih =>
    cases r with
    | nil => simp [commX, xtot]
    | cons b r =>
      show xlen (a.2 ++ (sgX [44] :: commX ((b :: r).map (fun (x : Hd × List Xt) => x.2)))) ≤ xlen a.2 + xtot (b :: r) + 21 * ((b :: r).length + 1 - 1)
      rw [xlen_app]
      simp only [List.length_cons, xlen, List.length_nil] at ih ⊢
      omega
theorem toks_len (F : Fo) : (toks F).length = F.len := by
  induction F with
  | nil => rfl
  | cons h ar r _ ih => simp [toks, Fo.len, ih]
theorem tok1_len (h : Hd) (ar : Fo) (hok : okH h ar) (os : List (Hd × List Xt)) (ho : os.length = ar.len) (hg : ∀ a r, h.k = 10 → os = a :: r → a.1.k ≠ 13 ∧ a.1.k ≠ 2 ∧ a.1.k ≠ 3) : xlen (tok1 h os) ≤ own h ar.len + xtot os := by
  unfold tok1 own
  by_cases k1 : h.k = 1
  · rw [if_pos k1, if_pos k1]
    rcases hok with hok | hok | hok
    · omega
    · have := dec_len19 (n := h.v.toNat) (by omega)
      simp only [xlen]; omega
    · omega
  rw [if_neg k1, if_neg k1]
  have hnm : h.nm.length ≤ 4 := by
    rcases hok with ⟨_, _, hok⟩ | ⟨_, _, hok, _⟩ | ⟨_, hok, _⟩
    · rcases hok with ⟨_, hok, _⟩ | ⟨_, hok, _⟩ | ⟨_, hok, _⟩ | ⟨_, hok, _⟩ | ⟨_, hok, _⟩ | ⟨_, hok, _⟩ | ⟨_, hok, _⟩ <;> first | exact hok.len | (rw [hok]; simp)
    · rw [hok]; simp
    · rw [hok]; simp
  have hsl := sgn_len h.op
  by_cases k13 : h.k = 13
  · rw [if_pos (.inl k13), if_pos k13]; simp only [xlen]; omega
  by_cases k2 : h.k = 13 ∨ h.k = 2 ∨ h.k = 3
  · rw [if_pos k2, if_neg k13]
    rcases hok with ⟨_, _, hok⟩ | ⟨_, k, _⟩ | ⟨_, _, hok⟩
    · rcases hok with ⟨k, _⟩ | ⟨k, _⟩ | ⟨k, _⟩ | ⟨k, _⟩ | ⟨k, _⟩ | ⟨k, _⟩ | ⟨k, _⟩ <;> omega
    · omega
    · rcases hok with ⟨k, _⟩ | ⟨k, _⟩ <;> omega
  rw [if_neg k2, if_neg k13]
  by_cases k12 : h.k = 12
  · rw [if_pos k12, if_pos k12]; simp [xlen]
  rw [if_neg k12, if_neg k12]
  by_cases k11 : h.k = 11
  · rw [if_pos k11, if_pos k11]; simp [xlen]; omega
  rw [if_neg k11, if_neg k11]
  have hlen3 : (h.k = 9 → os.length ≤ 2) ∧ (h.k = 10 → os.length ≤ 3) := by
    rw [ho]
    rcases hok with ⟨_, _, hok⟩ | ⟨_, _, _, _, _, hok⟩ | ⟨_, _, hok⟩
    · rcases hok with ⟨_, _, hok⟩ | ⟨_, _, hok⟩ | ⟨_, _, hok⟩ | ⟨_, _, hok⟩ | ⟨_, _, hok⟩ | ⟨_, _, hok⟩ | ⟨_, _, g, bs, r, hok, _, hr⟩ <;> first | (subst hok; simp [Fo.len]; done) | (subst hok; simp only [Fo.len]; omega) | omega
    · subst hok; simp [Fo.len]
    · omega
  split
  · split
    · simp [xtot, xlen, xlen_app]; omega
    · simp [xlen]
  split
  · split
    · rename_i a
      have := opdX_len a.1 a.2
      simp [xtot, xlen]; omega
    · simp [xlen]
  split
  · split
    · rename_i a b
      have := opdX_len a.1 a.2
      have := opdX_len b.1 b.2
      simp [xtot, xlen, xlen_app]; omega
    · simp [xlen]
  split
  · split
    · rename_i a b
      have := opdX_len a.1 a.2
      have := opdX_len b.1 b.2
      simp [xtot, xlen, xlen_app]; omega
    · simp [xlen]
  split
  · split
    · rename_i a b
      have := opdX_len a.1 a.2
      have := opdX_len b.1 b.2
      simp [xtot, xlen, xlen_app]; omega
    · simp [xlen]
  split
  · rename_i k9
    have := commX_len os
    have := hlen3.1 k9
    simp [listX, parX, xlen, xlen_app]; omega
  split
  · rename_i k10
    have h3 := hlen3.2 k10
    split
    · rename_i a r
      have h1 := opdX_len a.1 a.2
      have h2 := commX_len r
      have h4 := hg a r k10 rfl
      simp only [List.length_cons] at h3
      rw [if_neg (by omega)]
      simp only [listX, parX, xlen, xlen_app, xtot, List.length_cons, List.length_nil]
      omega
    · simp [xlen]
  · simp [xlen]
theorem toks_cst (F : Fo) (hw : F.wf) : xtot (toks F) ≤ F.cst := by
  induction F with
  | nil => exact Nat.le_refl _
  | cons h ar r ih1 ih2 =>
    have h1 := ih1 hw.2.2.1
    have h2 := ih2 hw.2.2.2
    have h3 := tok1_len h ar hw.1 (toks ar) (toks_len ar) (fun a r2 k e => by
      have hok := hw.1
      rcases hok with ⟨_, _, hok⟩ | ⟨_, k', _⟩ | ⟨_, _, hok⟩
      · rcases hok with ⟨k', _⟩ | ⟨k', _⟩ | ⟨k', _⟩ | ⟨k', _⟩ | ⟨k', _⟩ | ⟨k', _⟩ | ⟨_, _, g, bs, r3, rfl, hg, _⟩ <;> try omega
        have e2 : (g, tok1 g (toks bs)) :: toks r3 = a :: r2 := e
        injection e2 with e2 _
        subst e2
        have := okH.not23 hw.2.2.1.1
        exact ⟨hg, this⟩
      · omega
      · rcases hok with ⟨k', _⟩ | ⟨k', _⟩ <;> omega)
    show xlen (tok1 h (toks ar)) + xtot (toks r) ≤ own h ar.len + ar.cst + r.cst
    omega
theorem xtot_get (os : List (Hd × List Xt)) (i : Nat) (x : Hd × List Xt) (h : os[i]? = some x) : xlen x.2 ≤ xtot os := by
  induction os generalizing i with
  | nil => simp at h
  | cons a r ih =>
    cases i with
    | zero => simp at h; subst h; simp [xtot]
    | succ i => have := ih i (by simpa using h); simp only [xtot]; omega
theorem valX_len (xs : Fo) (hw : xs.wf) (i : Nat) : xlen (valX xs i) ≤ xs.cst := by
  unfold valX
  cases h : (toks xs)[i]? with
  | none => simp [xlen]
  | some a => exact Nat.le_trans (xtot_get _ _ _ h) (toks_cst xs hw)
theorem valX_len2 (xs : Fo) (hw : xs.wf) : xlen (valX xs 0) + xlen (valX xs 1) ≤ xs.cst := by
  have h0 := valX_len xs hw 0
  have h1 := valX_len xs hw 1
  have hc := toks_cst xs hw
  unfold valX at h0 h1 ⊢
  cases e0 : (toks xs)[0]? with
  | none => rw [e0] at h0; cases e1 : (toks xs)[1]? with
    | none => simp [xlen]
    | some b => rw [e1] at h1; simpa [xlen] using h1
  | some a => rw [e0] at h0; cases e1 : (toks xs)[1]? with
    | none => simpa [xlen] using h0
    | some b =>
      have key : xlen a.2 + xlen b.2 ≤ xtot (toks xs) := by
        generalize toks xs = l at e0 e1
        cases l with
        | nil => simp at e0
        | cons x r =>
          cases r with
          | nil => simp at e1
          | cons y r =>
            simp at e0 e1
            subst e0 e1
            simp only [xtot]; omega
      exact Nat.le_trans key hc
theorem tokS_len (S : Sf) (hw : S.wf) : xlen (tokS S) ≤ S.cst := by
  induction S with
  | nil => simp [tokS, xlen]
  | cons k ln nm xs th el r ih1 ih2 ih3 =>
    obtain ⟨hok, _, hx, ht, he, hr⟩ := hw
    have h1 := ih1 ht
    have h2 := ih2 he
    have h3 := ih3 hr
    have hv0 := valX_len xs hx 0
    have hv2 := valX_len2 xs hx
    have hnm := hok.nm
    unfold tokS
    rw [xlen_app]
    simp only [Sf.cst]
    split
    · simp only [xlen, xlen_app, List.length_cons, List.length_nil]; omega
    split
    · simp only [xlen, xlen_app, List.length_cons, List.length_nil]; omega
    split
    · simp only [xlen, xlen_app, List.length_cons, List.length_nil]; omega
    split
    · simp only [xlen, xlen_app, List.length_cons, List.length_nil]; omega
    split
    · simp only [xlen, xlen_app, List.length_cons, List.length_nil]; omega
    split
    · simp only [xlen, xlen_app, List.length_cons, List.length_nil]; omega
    split
    · simp only [xlen, xlen_app, List.length_cons, List.length_nil]; omega
    split
    · split
      · simp only [xlen, xlen_app, List.length_cons, List.length_nil]; omega
      · simp only [xlen, xlen_app, List.length_cons, List.length_nil]; omega
    · simp only [xlen]; omega
/-- the tokens of functions, globals and sources -/
def tokF (F : Fn) : List Xt := wdX [102, 117, 110, 99] :: nmX F.nm :: sgX [40] :: (commX (F.ps.map fun p => [nmX p]) ++ (sgX [41] :: sgX [123] :: (tokS F.bd ++ [sgX [125]])))
def tokG (x : Bt × Int) : List Xt := wdX [103, 108, 111, 98, 97, 108] :: nmX x.1 :: ((if 0 < x.2 then [sgX [91], (2, x.2, Lib.decDigits x.2.toNat), sgX [93]] else []) ++ [sgX [59]])
def tokP (gs : List (Bt × Int)) (Fs : List Fn) : List Xt := gs.flatMap tokG ++ Fs.flatMap tokF
theorem ps_Lx (ps : List Bt) (h : ∀ p ∈ ps, okN p) : ∀ {s r : Bt} {ts : List Xt}, nb s → Lx s r ts → Lx (comm ps ++ s) r (commX (ps.map fun p => [nmX p]) ++ ts) := by
  induction ps with
  | nil => intro s r ts _ hx; exact hx
  | cons p ps ih =>
    intro s r ts hs hx
    have hp := h p (by simp)
    have hq : ∀ q ∈ ps, okN q := fun q hq => h q (by simp [hq])
    cases ps with
    | nil => exact Lx.name hp hs hx
    | cons q ps =>
      show Lx ((p ++ ([44, 32] ++ comm (q :: ps))) ++ s) r (([nmX p] ++ (sgX [44] :: commX ((q :: ps).map fun p => [nmX p]))) ++ ts)
      simp only [List.append_assoc, List.cons_append, List.nil_append]
      exact Lx.name hp (nb_of (by decide)) (Lx.sg (by simp) (Lx.c32 (ih hq hs hx)))
theorem fmtF_Lx (F : Fn) (hn : okN F.nm) (hp : ∀ p ∈ F.ps, okN p) (hb : F.bd.wf) {s r : Bt} {ts : List Xt} (hx : Lx s r ts) : Lx (fmtF F ++ s) r (tokF F ++ ts) := by
  unfold fmtF tokF
  simp only [List.append_assoc, List.cons_append, List.nil_append]
  exact Lx.word (w := [102, 117, 110, 99]) (by decide) (nb_of (by decide)) (Lx.c32 (Lx.name hn (nb_of (by decide)) (Lx.sg (by simp) (ps_Lx F.ps hp (nb_of (by decide)) (Lx.sg (by simp) (Lx.c32 (Lx.sg (by simp) (Lx.c10 (fmtS_Lx F.bd hb 1 _ _ _ (Lx.sg (by simp) (Lx.c10 hx)))))))))))
theorem fmtG_Lx (x : Bt × Int) (h : okN x.1 ∧ 0 ≤ x.2 ∧ x.2 ≤ 5) {s r : Bt} {ts : List Xt} (hx : Lx s r ts) : Lx (fmtG x ++ s) r (tokG x ++ ts) := by
  obtain ⟨nm, z⟩ := x
  obtain ⟨hn, h0, h5⟩ := h
  obtain ⟨n, rfl⟩ := Int.eq_ofNat_of_zero_le h0
  dsimp only at *
  unfold fmtG tokG
  by_cases hz : (0 : Int) < (n : Int)
  · simp only [if_pos hz, List.append_assoc, List.cons_append, List.nil_append, Int.toNat_natCast]
    exact Lx.word (w := [103, 108, 111, 98, 97, 108]) (by decide) (nb_of (by decide)) (Lx.c32 (Lx.name hn (nb_of (by decide)) (Lx.sg (by simp) (Lx.num (by omega) (nb_of (by decide)) (Lx.sg (by simp) (Lx.sg (by simp) (Lx.c10 hx)))))))
  · simp only [if_neg hz, List.append_assoc, List.cons_append, List.nil_append]
    exact Lx.word (w := [103, 108, 111, 98, 97, 108]) (by decide) (nb_of (by decide)) (Lx.c32 (Lx.name hn (nb_of (by decide)) (Lx.sg (by simp) (Lx.c10 hx))))
theorem commX_ps (ps : List Bt) (h : ∀ p ∈ ps, p.length ≤ 4) (hl : ps.length ≤ 2) : xlen (commX (ps.map fun p => [nmX p])) ≤ 69 := by
  match ps, h, hl with
  | [], _, _ => simp [commX, xlen]
  | [a], h, _ => have := h a (by simp); simp [commX, xlen]; omega
  | [a, b], h, _ => have := h a (by simp); have := h b (by simp); simp [commX, xlen]; omega
  | _ :: _ :: _ :: _, _, hl => simp at hl
theorem tokF_len (F : Fn) (hn : F.nm.length ≤ 4) (hp : ∀ p ∈ F.ps, p.length ≤ 4) (hl : F.ps.length ≤ 2) (hb : F.bd.wf) (hc : F.bd.cst ≤ 9100) : xlen (tokF F) ≤ 9301 := by
  have h1 := commX_ps F.ps hp hl
  have h2 := tokS_len F.bd hb
  unfold tokF
  simp only [xlen, xlen_app, List.length_cons, List.length_nil]
  omega
theorem tokG_len (x : Bt × Int) (h : okN x.1 ∧ 0 ≤ x.2 ∧ x.2 ≤ 5) : xlen (tokG x) ≤ 152 := by
  have h1 := h.1.len
  have h2 := dec_small x.2 h.2.1 h.2.2
  unfold tokG
  split
  · simp only [xlen, xlen_app, List.length_cons, List.length_nil]; omega
  · simp only [xlen, xlen_app, List.length_cons, List.length_nil]; omega
theorem flat_Lx {α : Type} (f : α → Bt) (g : α → List Xt) (l : List α) (h : ∀ a ∈ l, ∀ {s r : Bt} {ts : List Xt}, Lx s r ts → Lx (f a ++ s) r (g a ++ ts)) {s r : Bt} {ts : List Xt} (hx : Lx s r ts) : Lx (l.flatMap f ++ s) r (l.flatMap g ++ ts) := by
  induction l with
  | nil => exact hx
  | cons a l ih =>
    rw [List.flatMap_cons, List.flatMap_cons, List.append_assoc, List.append_assoc]
    exact h a (by simp) (ih (fun b hb => h b (by simp [hb])))
theorem flat_xlen {α : Type} (g : α → List Xt) (c : Nat) (l : List α) (h : ∀ a ∈ l, xlen (g a) ≤ c) : xlen (l.flatMap g) ≤ l.length * c := by
  induction l with
  | nil => simp [xlen]
  | cons a r ih =>
    rw [List.flatMap_cons, xlen_app, List.length_cons, Nat.add_mul]
    have := h a (by simp)
    have := ih (fun x hx => h x (by simp [hx]))
    omega
theorem SrcIn.fn {w : World} {gs : List (Bt × Int)} {fs : List Fr} {Fs : List Fn} {aa ab : Option Addr} {ca cb : Nat} (h : SrcIn w gs fs Fs aa ca ab cb) : ∀ F ∈ Fs, okN F.nm ∧ (∀ p ∈ F.ps, okN p) ∧ F.bd.wf ∧ F.bd.cst ≤ 9100 ∧ F.ps.length ≤ 2 := by
  intro F hF
  obtain ⟨j, hj, e⟩ := List.mem_iff_getElem.1 hF
  obtain ⟨f, hf, hFn⟩ := h.fns.get2 (j := j) (F := F) (by rw [List.getElem?_eq_getElem hj, e])
  have hk := h.fok f (List.mem_of_getElem? hf)
  obtain ⟨h1, h2, _, _, _, _, h7, _, h9, h10, _⟩ := hFn
  exact ⟨h1 ▸ hk.1, h7, h9, h10, by have := hk.2; omega⟩
/-- a drawn source's text is scanned -/
theorem SrcIn.scan {w : World} {gs : List (Bt × Int)} {fs : List Fr} {Fs : List Fn} {aa ab : Option Addr} {ca cb : Nat} (h : SrcIn w gs fs Fs aa ca ab cb) :
    ∃ ys ln, Go.Proofs.YthcagbplolcbpaaDoor.scan (fmtP gs Fs) = (some (ys ++ [⟨0, ln, 0, []⟩]), 0) ∧ unl ys = tokP gs Fs ∧ (∀ x ∈ ys, TokOk x) ∧ tkLen 20 ys ≤ 38000 ∧ ys ≠ [] := by
  have hx : Lx (fmtP gs Fs) [] (tokP gs Fs) := by
    have h1 : Lx (Fs.flatMap fmtF ++ []) [] (Fs.flatMap tokF ++ []) := flat_Lx fmtF tokF Fs (fun F hF => by
      obtain ⟨k1, k2, k3, _⟩ := h.fn F hF
      intro s r ts hx
      exact fmtF_Lx F k1 k2 k3 hx) (Lx.refl [])
    rw [List.append_nil, List.append_nil] at h1
    exact flat_Lx fmtG tokG gs (fun x hx => fun hs => fmtG_Lx x (h.gok x hx) hs) h1
  obtain ⟨ys, ln, e1, e2, e3⟩ := hx [] 1
  have hc : xlen (tokP gs Fs) ≤ 38000 := by
    have h1 := flat_xlen tokG 152 gs (fun x hx => tokG_len x (h.gok x hx))
    have h2 := flat_xlen tokF 9301 Fs (fun F hF => by
      obtain ⟨k1, k2, k3, k4, k5⟩ := h.fn F hF
      exact tokF_len F k1.len (fun p hp => (k2 p hp).len) k5 k3 k4)
    have h3 := h.fns.len
    have h4 := h.gn
    have h5 := h.f4
    have h6 : gs.length * 152 ≤ 4 * 152 := Nat.mul_le_mul_right _ h4
    have h7 : Fs.length * 9301 ≤ 4 * 9301 := Nat.mul_le_mul_right _ (by omega)
    unfold tokP
    rw [xlen_app]
    omega
  refine ⟨ys, ln, ?_, e2, e3, by rw [← xlen_unl, e2]; exact hc, ?_⟩
  · rw [scan_F, e1, scF_nil]
    rfl
  · intro e
    subst e
    have hF : ∃ F r, Fs = F :: r := by
      have h3 := h.fns.len
      have h5 := h.f1
      cases Fs with
      | nil => rw [List.length_nil] at h3; omega
      | cons F r => exact ⟨F, r, rfl⟩
    obtain ⟨F, r, rfl⟩ := hF
    have : tokP gs (F :: r) = [] := e2.symm
    unfold tokP at this
    rw [List.flatMap_cons] at this
    have h1 := (List.append_eq_nil_iff.1 this).2
    have h2 := (List.append_eq_nil_iff.1 h1).1
    unfold tokF at h2
    cases h2
end Go.Proofs.YthcagbplolcbpaaDoor
namespace Go.Proofs.YthcagbplolcbpaaDoor
open Go.ChangeShapes Go.WideShapes Go.ChangeAt Go.RowKit
set_option linter.unusedVariables false
set_option linter.unusedSimpArgs false

/-- all tokens but ends -/
def nonE (ts : List Tk) : List Tk := ts.filter fun x => x.k != 0
theorem nonE_take (ts : List Tk) (i : Nat) (x : Tk) (h : ts[i]? = some x) : nonE (ts.take (i + 1)) = if x.k = 0 then nonE (ts.take i) else nonE (ts.take i) ++ [x] := by
  have e : ts.take (i + 1) = ts.take i ++ [x] := by rw [List.take_add_one, h]; rfl
  rw [e]
  unfold nonE
  rw [List.filter_append]
  by_cases hk : x.k = 0
  · rw [if_pos hk]; simp [hk]
  · rw [if_neg hk]; simp [hk]
theorem joinB_snoc (l : List Tk) (x : Tk) : joinB (l ++ [x]) = if l = [] then x.t else joinB l ++ (32 :: x.t) := by
  induction l with
  | nil => rfl
  | cons y l ih =>
    rw [if_neg (by simp)]
    cases l with
    | nil => rfl
    | cons z l =>
      rw [if_neg (by simp)] at ih
      show y.t ++ (32 :: joinB ((z :: l) ++ [x])) = (y.t ++ (32 :: joinB (z :: l))) ++ (32 :: x.t)
      rw [ih]
      simp [List.append_assoc]
theorem joinB_take (ts : List Tk) (i : Nat) : (joinB (nonE (ts.take i))).length ≤ tkLen 1 ts := by
  refine Nat.le_trans (joinB_len _) ?_
  have key : ∀ (l : List Tk) (i : Nat), tkLen 1 (nonE (l.take i)) ≤ tkLen 1 l := by
    intro l
    induction l with
    | nil => intro i; simp [nonE, tkLen]
    | cons x l ih =>
      intro i
      cases i with
      | zero => simp [nonE, tkLen]
      | succ i =>
        have := ih i
        unfold nonE at this ⊢
        rw [List.take_succ_cons, List.filter_cons]
        split
        · simp only [tkLen]; omega
        · simp only [tkLen]; omega
  exact key ts i
theorem tk_get (ts : List Tk) (i : Nat) (h : i < ts.length) : ∃ x, ts[i]? = some x := ⟨_, List.getElem?_eq_getElem h⟩
theorem tk_le (c : Nat) (ts : List Tk) (i : Nat) (x : Tk) (h : ts[i]? = some x) : x.t.length ≤ tkLen c ts := by
  induction ts generalizing i with
  | nil => simp at h
  | cons y l ih =>
    cases i with
    | zero => simp at h; subst h; simp only [tkLen]; omega
    | succ i => have := ih i (by simpa using h); simp only [tkLen]; omega
set_option maxRecDepth 100000 in
set_option maxHeartbeats 8000000 in
theorem RJoin_any (ts : List Tk) (hl : tkLen 1 ts ≤ 1000000) (w : World) (a : Option Addr) (cap : Nat) (hn : ts.length ≤ 1000000) (h : Tks w a ts) :
    Calls Tryd.prog 22 #[.slice a ts.length cap] w fun e w' => e = .returned (.string (st (joinB (nonE ts)))) ∧ Below w.heap.size w w' := by
  have H := Lib.hid h
  have HL := Lib.hid hl
  clear h hl
  obtain ⟨n, hn2⟩ : ∃ n, ts.length = n := ⟨_, rfl⟩
  rw [hn2] at hn ⊢
  have HN := Lib.hid hn2
  clear hn2
  go_enter Tryd.func22, Tryd.ntmps22
  go_upto_block 0 with fail
  go_wp2_with fail
  go_loopw [3, 4, 5] (fun v3 v4 v5 wr => ∃ (i : Nat) (f : Bool), i ≤ n ∧ v3 = .string (st (joinB (nonE (ts.take i)))) ∧ v4 = .bool f ∧ v5 = .int .i64 i ∧ Hid (f = decide (nonE (ts.take i) ≠ [])) ∧ Hid (Below w.heap.size w wr)) (fun _ _ v5 _ => n - (intOf v5).toNat)
  case atStart => exact ⟨0, false, by omega, rfl, rfl, rfl, Lib.hid (by simp [nonE]), Lib.hid (Below.refl _ _)⟩
  case round =>
    obtain ⟨i, f, hi, rfl, rfl, rfl, HF, HR⟩ := hrel
    have hpl := Nat.le_trans (joinB_take ts i) HL.out
    by_cases hlt : i < n
    · obtain ⟨x, hx⟩ := tk_get ts i (by rw [HN.out]; exact hlt)
      obtain ⟨b, off, rfl, hb, k0, k1, k2, k3⟩ := (H.out.below HR.out) i x hx
      have HT := Lib.hid (nonE_take ts i x hx)
      have hxl := Nat.le_trans (tk_le 1 ts i x hx) HL.out
      have hst := st_app
      clear hx k1 k2
      by_cases hk : x.k = 0
      · rw [hk] at k0
        have HT2 : Hid (nonE (ts.take (i + 1)) = nonE (ts.take i)) := Lib.hid (by have := HT.out; rw [if_pos hk] at this; exact this)
        clear hk
        obtain ⟨P, hP⟩ : ∃ P, joinB (nonE (ts.take i)) = P := ⟨_, rfl⟩
        have HP := Lib.hid hP
        rw [hP] at hpl ⊢
        clear hP
        go_wp2_with fail
        go_roundw
        case rel => exact ⟨i + 1, f, by omega, by rw [HT2.out, HP.out], rfl, by go_num, Lib.hid (by rw [HT2.out]; exact HF.out), HR⟩
        case measure => simp [intOf]; omega
      · have hk0 : (x.k == 0) = false := by rw [beq_eq_false_iff_ne]; exact hk
        have HT2 : Hid (nonE (ts.take (i + 1)) = nonE (ts.take i) ++ [x]) := Lib.hid (by have := HT.out; rw [if_neg hk] at this; exact this)
        clear hk
        obtain ⟨X, hX⟩ : ∃ X, nonE (ts.take i) = X := ⟨_, rfl⟩
        rw [hX] at HT2 hpl HF
        (try rw [hX])
        have HJ : Hid (joinB (nonE (ts.take (i + 1))) = if X = [] then x.t else joinB X ++ (32 :: x.t)) := Lib.hid (by rw [HT2.out, joinB_snoc])
        obtain ⟨P, hP⟩ : ∃ P, joinB X = P := ⟨_, rfl⟩
        have HP := Lib.hid hP
        rw [hP] at hpl ⊢
        clear hP hX
        cases f
        · have HX0 : Hid (X = []) := Lib.hid (by have := HF.out; by_cases e : X = []; exact e; simp [e] at this)
          have HP0 : Hid (P = []) := Lib.hid (by rw [← HP.out, HX0.out]; rfl)
          go_wp2_with fail
          go_roundw
          case rel => exact ⟨i + 1, true, by omega, by rw [HJ.out, if_pos HX0.out, HP0.out]; simp, rfl, by go_num, Lib.hid (by rw [HT2.out]; simp), HR⟩
          case measure => simp [intOf]; omega
        · have HX0 : Hid (X ≠ []) := Lib.hid (by have := HF.out; simpa using this)
          go_wp2_with fail
          go_roundw
          case rel => exact ⟨i + 1, true, by omega, by rw [HJ.out, if_neg HX0.out, HP.out], rfl, by go_num, Lib.hid (by rw [HT2.out]; simp), HR⟩
          case measure => simp [intOf]; omega
    · obtain rfl : i = n := by omega
      have HE : Hid (ts.take i = ts) := Lib.hid (by rw [← HN.out, List.take_length])
      obtain ⟨P, hP⟩ : ∃ P, joinB (nonE (ts.take i)) = P := ⟨_, rfl⟩
      have HP : Hid (joinB (nonE ts) = P) := Lib.hid (by rw [← hP, HE.out])
      rw [hP] at hpl ⊢
      clear hP
      go_wp2_with fail
      refine bodyPost_ret (v := .string (st P)) (by simp [results, Tryd.results22, go_sem]) rfl ?_
      exact ⟨by rw [HP.out], HR.out⟩
theorem joinTxt (l : List Tk) : Lib.join ((l.map (fun x => st x.t)).map (·.data.toList)) [32] = joinB l := by
  induction l with
  | nil => rfl
  | cons x l ih =>
    cases l with
    | nil => simp [Lib.join, joinB, List.intercalate]
    | cons y l =>
      show _ = x.t ++ (32 :: joinB (y :: l))
      rw [← ih]
      simp [Lib.join, List.intercalate]
set_option maxRecDepth 100000 in
set_option maxHeartbeats 8000000 in
theorem FJoin_any (ts : List Tk) (hl : tkLen 1 ts ≤ 1000000) (w : World) (a : Option Addr) (cap : Nat) (hn : ts.length ≤ 1000000) (h : Tks w a ts) :
    Calls Tryd.prog 21 #[.slice a ts.length cap] w fun e w' => e = .returned (.string (st (joinB (nonE ts)))) ∧ Below w.heap.size w w' := by
  have H := Lib.hid h
  have HL := Lib.hid hl
  clear h hl
  obtain ⟨i0, hi0, hz0, hz1, hz2⟩ := info_parts Tryd.infoStr
  have HI := Lib.hid hi0
  have HZ0 := Lib.hid hz0
  have HZ1 := Lib.hid hz1
  have HZ2 := Lib.hid hz2
  clear hi0 hz0 hz1 hz2
  obtain ⟨n, hn2⟩ : ∃ n, ts.length = n := ⟨_, rfl⟩
  rw [hn2] at hn ⊢
  have HN := Lib.hid hn2
  clear hn2
  go_enter Tryd.func21, Tryd.ntmps21
  go_upto_block 0 with fail
  go_wp2_with fail
  go_loopw [3, 8] (fun v3 v8 wr => ∃ i : Nat, i ≤ n ∧ v8 = .int .i64 i ∧ Hid (Below w.heap.size w wr ∧ wr.ownsRow w.heap.size 9 1 v3 (nonE (ts.take i)).length (strs ((nonE (ts.take i)).map (·.t))))) (fun _ v8 _ => n - (intOf v8).toNat)
  case atStart => exact ⟨0, by omega, rfl, Lib.hid ⟨Below.refl _ _, World.ownsRow_nil _ _ _ _⟩⟩
  case round =>
    obtain ⟨i, hi, rfl, HR⟩ := hrel
    by_cases hlt : i < n
    · obtain ⟨x, hx⟩ := tk_get ts i (by rw [HN.out]; exact hlt)
      obtain ⟨b, off, rfl, hb, k0, k1, k2, k3⟩ := (H.out.below HR.out.1) i x hx
      have HT := Lib.hid (nonE_take ts i x hx)
      have hXl : (nonE (ts.take i)).length ≤ i := Nat.le_trans (List.length_filter_le _ _) (by rw [List.length_take]; omega)
      clear hx
      have hb1 := below_alloc wr (.cells #[.int .i64 x.k, .int .i64 x.n, .int .i64 x.v, .string (st x.t)] 33)
      have hr1 := heap_alloc_new wr (.cells #[.int .i64 x.k, .int .i64 x.n, .int .i64 x.v, .string (st x.t)] 33)
      go_upto_region 5 with fail
      obtain ⟨w1, hw1⟩ : ∃ W, wr.alloc (.cells #[.int .i64 x.k, .int .i64 x.n, .int .i64 x.v, .string (st x.t)] 33) = W := ⟨_, rfl⟩
      obtain ⟨g, hg⟩ : ∃ x, wr.heap.size = x := ⟨_, rfl⟩
      rw [hw1] at hb1 hr1 ⊢
      rw [hg] at hr1
      (try rw [hg])
      have HB1 := Lib.hid (HR.out.1.trans (hb1.mono HR.out.1.size))
      have HO1 := Lib.hid (own_below HR.out.2 hb1)
      have q0 := cell_of_row _ g 0 _ _ _ hr1
      have q3 := cell_of_row _ g 3 _ _ _ hr1
      have hgl := heap_lt hr1
      clear hw1 hb1 hr1 hg k0 k1 k2 k3
      obtain ⟨X, hX⟩ : ∃ X, nonE (ts.take i) = X := ⟨_, rfl⟩
      rw [hX] at HT HO1 hXl
      (try rw [hX])
      clear hX
      by_cases hk : x.k = 0
      · rw [hk] at q0
        have HT2 : Hid (nonE (ts.take (i + 1)) = X) := Lib.hid (by have := HT.out; rw [if_pos hk] at this; exact this)
        clear hk
        go_wp2_with fail
        go_roundw
        case rel => exact ⟨i + 1, by omega, by go_num, Lib.hid ⟨HB1.out, by rw [HT2.out]; exact HO1.out⟩⟩
        case measure => simp [intOf]; omega
      · have hk0 : (x.k != 0) = true := by rw [bne_iff_ne]; exact hk
        have hk1 : (x.k == 0) = false := by rw [beq_eq_false_iff_ne]; exact hk
        have HT2 : Hid (nonE (ts.take (i + 1)) = X ++ [x]) := Lib.hid (by have := HT.out; rw [if_neg hk] at this; exact this)
        clear hk
        have HOA := Lib.hid (HO1.out.alloc (.cells #[.string (st x.t)] 9))
        have HBA := Lib.hid (HB1.out.alloc HB1.out.size (.cells #[.string (st x.t)] 9))
        have hsz := HB1.out.size
        go_wp2_with (at_builtin; refine wpList_append_own _ rfl _ _ _ rfl w.heap.size 9 i0 _ 1 16 Tryd.underlying38 HI.out HZ0.out HZ1.out HZ2.out rfl (by omega) _ _ _ rfl HOA.out ⟨w1.heap.size, 0, none⟩ 1 1 [.string (st x.t)] rfl rfl (World.news_of_block (cs := #[.string (st x.t)]) (t := 9) (fr := (0, 0)) (heap_alloc_new w1 _)) (by simp [Value.oneCell']) (by unfold maxLen; omega) (by omega) (by simp; omega) ?_; intro v' w9 hown9 hgrow9 _; have HO9 := Lib.hid hown9; have HG9 := Lib.hid hgrow9; clear hown9 hgrow9)
        go_roundw
        case rel => exact ⟨i + 1, by omega, by go_num, Lib.hid ⟨HBA.out.grown HG9.out HBA.out.size (fun k hk => (HOA.out.lt k hk).1), by
          have := HO9.out
          rw [HT2.out, List.map_append, List.length_append]
          rw [strs_push] at this
          exact this⟩⟩
        case measure => simp [intOf]; omega
    · obtain rfl : i = n := by omega
      have HE : Hid (ts.take i = ts) := Lib.hid (by rw [← HN.out, List.take_length])
      have hjl := Nat.le_trans (joinB_take ts i) HL.out
      obtain ⟨X, hX⟩ : ∃ X, nonE (ts.take i) = X := ⟨_, rfl⟩
      have HX : Hid (nonE ts = X) := Lib.hid (by rw [← hX, HE.out])
      have hXl : X.length ≤ i := by rw [← hX]; exact Nat.le_trans (List.length_filter_le _ _) (by rw [List.length_take]; omega)
      rw [hX] at HR hjl
      clear hX
      obtain ⟨hbel, hown⟩ := HR.out
      obtain ⟨av, cv, rfl, c0, c1, c2, c3, _⟩ := Cells.of_own hown
      have HBL := Lib.hid hbel
      have HC3 := Lib.hid c3
      have hJ : Lib.join ((X.map (fun x => st x.t)).map (·.data.toList)) [32] = joinB X := joinTxt X
      have HCALL : Hid (Calls Tryd.prog 30 #[.slice av X.length cv, .string (st [32])] wr fun e w' => e = .returned (.string (st (joinB X))) ∧ Below wr.heap.size wr w') := Lib.hid (by
        by_cases hx0 : X = []
        · subst hx0
          refine (Tryd.strings_Join_none av cv _ wr).mono ?_
          rintro e w' ⟨rfl, rfl⟩
          exact ⟨rfl, Below.refl _ _⟩
        · have hne : strs (X.map (·.t)) ≠ [] := by intro e; simp at e; exact hx0 e
          obtain ⟨bk, o, rfl, hbk, hcc⟩ := HC3.out hne
          have := Tryd.strings_Join bk o cv (X.map (fun x => st x.t)) (st [32]) wr (fun j y hj => by
            rw [List.getElem?_map] at hj
            cases hh : X[j]? with
            | none => rw [hh] at hj; cases hj
            | some z =>
              rw [hh] at hj
              injection hj with hj
              subst hj
              exact hcc j _ (by simp [hh])) hbk (by simp; omega) (by simp; omega) (by show (Lib.join _ [32]).length ≤ _; rw [hJ]; omega)
          rw [List.length_map] at this
          refine this.mono ?_
          rintro e w' ⟨rfl, hb⟩
          refine ⟨?_, hb⟩
          show Ending.returned (.string ⟨(Lib.join _ [32]).toArray⟩) = _
          rw [hJ])
      clear hown c0 c1 c2 c3 hbel hJ
      go_wp2_with fail
      refine HCALL.out.mono ?_
      rintro e w3 ⟨rfl, hb3⟩
      obtain ⟨P, hP⟩ : ∃ P, joinB X = P := ⟨_, rfl⟩
      have HP : Hid (joinB (nonE ts) = P) := Lib.hid (by rw [HX.out, hP])
      rw [hP]
      clear hP
      go_wp2_with fail
      refine bodyPost_ret (v := .string (st P)) (by simp [results, Tryd.results21, go_sem]) rfl ?_
      exact ⟨by rw [HP.out], HBL.out.trans (hb3.mono HBL.out.size)⟩
end Go.Proofs.YthcagbplolcbpaaDoor
namespace Go.Proofs.YthcagbplolcbpaaDoor
open Go.ChangeShapes Go.WideShapes Go.ChangeAt Go.RowKit
set_option linter.unusedVariables false
set_option linter.unusedSimpArgs false

theorem set4_far (w : World) {b k : Nat} {v0 v1 v2 v3 : Value} (h : b ≠ k) : (set4 w b v0 v1 v2 v3).heap[k]? = w.heap[k]? :=
  (heap_setCell_other _ ⟨b, 3, none⟩ k _ (fun e => h e.symm)).trans ((heap_setCell_other _ ⟨b, 2, none⟩ k _ (fun e => h e.symm)).trans ((heap_setCell_other _ ⟨b, 1, none⟩ k _ (fun e => h e.symm)).trans (heap_setCell_other _ ⟨b, 0, none⟩ k _ (fun e => h e.symm))))
set_option maxRecDepth 100000 in
set_option maxHeartbeats 8000000 in
theorem Same_true (la lb : List Tk) (lines : Bool) (hlen : la.length = lb.length) (hn : la.length ≤ 1000000) (heq : ∀ (i : Nat) (x y : Tk), la[i]? = some x → lb[i]? = some y → x.k = y.k ∧ x.v = y.v ∧ x.t = y.t ∧ (lines = true → x.n = y.n)) (w : World) (a b : Option Addr) (ca cb : Nat) (ha : Tks w a la) (hb : Tks w b lb) :
    Calls Tryd.prog 12 #[.slice a la.length ca, .slice b lb.length cb, .bool lines] w fun e w' => e = .returned (.bool true) ∧ Below w.heap.size w w' := by
  have HA := Lib.hid ha
  have HB := Lib.hid hb
  have HE := Lib.hid heq
  clear ha hb heq
  rw [← hlen]
  obtain ⟨n, hn2⟩ : ∃ n, la.length = n := ⟨_, rfl⟩
  rw [hn2] at hn hlen ⊢
  have HN := Lib.hid hn2
  have HM : Hid (lb.length = n) := Lib.hid hlen.symm
  clear hn2 hlen
  go_enter Tryd.func12, Tryd.ntmps12
  go_upto_block 0 with fail
  go_wp2_with fail
  go_loopw [7] (fun v7 wr => ∃ i : Nat, i ≤ n ∧ v7 = .int .i64 i ∧ Hid (Below w.heap.size w wr)) (fun v7 _ => n - (intOf v7).toNat)
  case atStart => exact ⟨0, by omega, rfl, Lib.hid (Below.refl _ _)⟩
  case round =>
    obtain ⟨i, hi, rfl, HR⟩ := hrel
    by_cases hlt : i < n
    · obtain ⟨x, hx⟩ := tk_get la i (by rw [HN.out]; exact hlt)
      obtain ⟨y, hy⟩ := tk_get lb i (by rw [HM.out]; exact hlt)
      obtain ⟨e1, e2, e3, e4⟩ := HE.out i x y hx hy
      obtain ⟨ba, offa, rfl, hba, k0, k1, k2, k3⟩ := (HA.out.below HR.out) i x hx
      obtain ⟨bb, offb, rfl, hbb, j0, j1, j2, j3⟩ := (HB.out.below HR.out) i y hy
      clear hx hy
      obtain ⟨xk, xn, xv, xt⟩ := x
      obtain ⟨yk, yn, yv, yt⟩ := y
      dsimp only at *
      subst e1 e2 e3
      have E4 := Lib.hid e4
      clear e4
      go_upto_region 6 with fail
      have hsz := HR.out.size
      have HK := Lib.hid (And.intro hba hbb)
      obtain ⟨wd, hwd⟩ : ∃ W, wr.drew = W := ⟨_, rfl⟩
      have hbd : Below wr.heap.size wr wd := by rw [← hwd]; exact (Below.refl _ _).drew
      have HBD := Lib.hid (HR.out.trans (hbd.mono HR.out.size))
      have hsd : wr.heap.size ≤ wd.heap.size := hbd.size
      refine wp_region_held_drew (S := (fun w' => w'.cell? ⟨ba, offa + i * 4, none⟩ = some (.int .i64 xk) ∧ w'.cell? ⟨ba, offa + i * 4 + 1, none⟩ = some (.int .i64 xn) ∧ w'.cell? ⟨ba, offa + i * 4 + 2, none⟩ = some (.int .i64 xv) ∧ w'.cell? ⟨ba, offa + i * 4 + 3, none⟩ = some (.string (st xt)) ∧ w'.cell? ⟨bb, offb + i * 4, none⟩ = some (.int .i64 xk) ∧ w'.cell? ⟨bb, offb + i * 4 + 1, none⟩ = some (.int .i64 yn) ∧ w'.cell? ⟨bb, offb + i * 4 + 2, none⟩ = some (.int .i64 xv) ∧ w'.cell? ⟨bb, offb + i * 4 + 3, none⟩ = some (.string (st xt)))) (by kernel_rfl) ⟨k0, k1, k2, k3, j0, j1, j2, j3⟩ (fun hHeld => ?_)
      rw [hwd] at hHeld ⊢
      clear hwd hbd
      refine wpAnyH_takeD (i := 0) (d := some 21) (v := ?_) rfl (by kernel_rfl) (by kernel_rfl) (by kernel_rfl) (by kernel_rfl) (fun _ _ _ h => h) (Or.inl ⟨by kernel_rfl, ?_⟩) (by assumption) ?_
      rotate_left
      · (intro w hSw; (try dsimp only at hSw); go_simp; try with_reducible rfl)
      (try simp only [Act.put, List.setIfInBounds_toArray, List.set_cons_zero, List.set_cons_succ])
      refine wpAnyH_takeD (i := 1) (d := some 22) (v := ?_) rfl (by kernel_rfl) (by kernel_rfl) (by kernel_rfl) (by kernel_rfl) (fun _ _ _ h => h) (Or.inl ⟨by kernel_rfl, ?_⟩) (by assumption) ?_
      rotate_left
      · (intro w hSw; (try dsimp only at hSw); go_simp; try with_reducible rfl)
      (try simp only [Act.put, List.setIfInBounds_toArray, List.set_cons_zero, List.set_cons_succ])
      refine wpAnyH_takeD (i := 2) (d := some 23) (v := ?_) rfl (by kernel_rfl) (by kernel_rfl) (by kernel_rfl) (by kernel_rfl) (fun _ _ _ h => h) (Or.inl ⟨by kernel_rfl, ?_⟩) (by assumption) ?_
      rotate_left
      · (intro w hSw; (try dsimp only at hSw); go_simp; try with_reducible rfl)
      (try simp only [Act.put, List.setIfInBounds_toArray, List.set_cons_zero, List.set_cons_succ])
      refine wpAnyH_takeD (i := 3) (d := some 24) (v := ?_) rfl (by kernel_rfl) (by kernel_rfl) (by kernel_rfl) (by kernel_rfl) (fun _ _ _ h => h) (Or.inl ⟨by kernel_rfl, ?_⟩) (by assumption) ?_
      rotate_left
      · (intro w hSw; (try dsimp only at hSw); go_simp; try with_reducible rfl)
      (try simp only [Act.put, List.setIfInBounds_toArray, List.set_cons_zero, List.set_cons_succ])
      refine wpAnyH_takeD (i := 4) (d := some 25) (v := ?_) rfl (by kernel_rfl) (by kernel_rfl) (by kernel_rfl) (by kernel_rfl) (fun _ _ _ h => h) (Or.inl ⟨by kernel_rfl, ?_⟩) (by assumption) ?_
      rotate_left
      · (intro w hSw; (try dsimp only at hSw); go_simp; try with_reducible rfl)
      (try simp only [Act.put, List.setIfInBounds_toArray, List.set_cons_zero, List.set_cons_succ])
      refine wpAnyH_takeD (i := 5) (d := some 26) (v := ?_) rfl (by kernel_rfl) (by kernel_rfl) (by kernel_rfl) (by kernel_rfl) (fun _ _ _ h => h) (Or.inl ⟨by kernel_rfl, ?_⟩) (by assumption) ?_
      rotate_left
      · (intro w hSw; (try dsimp only at hSw); go_simp; try with_reducible rfl)
      (try simp only [Act.put, List.setIfInBounds_toArray, List.set_cons_zero, List.set_cons_succ])
      refine wpAnyH_takeD (i := 6) (d := some 27) (v := ?_) rfl (by kernel_rfl) (by kernel_rfl) (by kernel_rfl) (by kernel_rfl) (fun _ _ _ h => h) (Or.inl ⟨by kernel_rfl, ?_⟩) (by assumption) ?_
      rotate_left
      · (intro w hSw; (try dsimp only at hSw); go_simp; try with_reducible rfl)
      (try simp only [Act.put, List.setIfInBounds_toArray, List.set_cons_zero, List.set_cons_succ])
      refine wpAnyH_takeD (i := 7) (d := some 28) (v := ?_) rfl (by kernel_rfl) (by kernel_rfl) (by kernel_rfl) (by kernel_rfl) (fun _ _ _ h => h) (Or.inl ⟨by kernel_rfl, ?_⟩) (by assumption) ?_
      rotate_left
      · (intro w hSw; (try dsimp only at hSw); go_simp; try with_reducible rfl)
      (try simp only [Act.put, List.setIfInBounds_toArray, List.set_cons_zero, List.set_cons_succ])
      refine wpAnyH_ready (rs := [8, 9]) (by kernel_rfl) (by simp) ?_
      refine AllReadyH.cons rfl (fun K hK => ?_) (AllReadyH.cons rfl (fun K hK => ?_) AllReadyH.nil)
      · go_simp
        refine hK.out _ _ ⟨cell_ml _ hHeld.1, cell_ml _ hHeld.2.1, cell_ml _ hHeld.2.2.1, cell_ml _ hHeld.2.2.2.1, cell_ml _ hHeld.2.2.2.2.1, cell_ml _ hHeld.2.2.2.2.2.1, cell_ml _ hHeld.2.2.2.2.2.2.1, cell_ml _ hHeld.2.2.2.2.2.2.2⟩ (fun hHeld => ?_)
        clear hK K
        (try simp only [Act.put, List.setIfInBounds_toArray, List.set_cons_zero, List.set_cons_succ])
        obtain ⟨wA, hw2⟩ : ∃ W, wd.alloc (.cells #[.int .i64 0, .int .i64 0, .int .i64 0, .string ⟨#[]⟩] 33) = W := ⟨_, rfl⟩
        obtain ⟨g8, hg⟩ : ∃ x, wd.heap.size = x := ⟨_, rfl⟩
        have hng8 := heap_alloc_new wd (.cells #[.int .i64 0, .int .i64 0, .int .i64 0, .string ⟨#[]⟩] 33)
        have hbg8 := below_alloc wd (.cells #[.int .i64 0, .int .i64 0, .int .i64 0, .string ⟨#[]⟩] 33)
        rw [hw2] at hng8 hbg8 hHeld ⊢
        rw [hg] at hng8
        have hlg8 : wd.heap.size ≤ g8 := by omega
        (try rw [hg])
        have hsg8 := hbg8.size
        clear hw2 hg
        refine wpAnyH_ready (rs := [9]) (by kernel_rfl) (by simp) ?_
        refine AllReadyH.cons rfl (fun K hK => ?_) AllReadyH.nil
        go_simp
        refine hK.out _ _ ⟨cell_ml _ hHeld.1, cell_ml _ hHeld.2.1, cell_ml _ hHeld.2.2.1, cell_ml _ hHeld.2.2.2.1, cell_ml _ hHeld.2.2.2.2.1, cell_ml _ hHeld.2.2.2.2.2.1, cell_ml _ hHeld.2.2.2.2.2.2.1, cell_ml _ hHeld.2.2.2.2.2.2.2⟩ (fun hHeld => ?_)
        clear hK K
        (try simp only [Act.put, List.setIfInBounds_toArray, List.set_cons_zero, List.set_cons_succ])
        obtain ⟨wB, hw2⟩ : ∃ W, wA.alloc (.cells #[.int .i64 0, .int .i64 0, .int .i64 0, .string ⟨#[]⟩] 33) = W := ⟨_, rfl⟩
        obtain ⟨g9, hg⟩ : ∃ x, wA.heap.size = x := ⟨_, rfl⟩
        have hng9 := heap_alloc_new wA (.cells #[.int .i64 0, .int .i64 0, .int .i64 0, .string ⟨#[]⟩] 33)
        have hbg9 := below_alloc wA (.cells #[.int .i64 0, .int .i64 0, .int .i64 0, .string ⟨#[]⟩] 33)
        rw [hw2] at hng9 hbg9 hHeld ⊢
        rw [hg] at hng9
        have hlg9 : wA.heap.size ≤ g9 := by omega
        (try rw [hg])
        have hsg9 := hbg9.size
        clear hw2 hg
        have H8 := (hbg9.block g8 (heap_lt hng8)).trans hng8
        have H9 := hng9
        have HBB := (HBD.out.trans (hbg8.mono HBD.out.size)).trans (hbg9.mono (by omega))
        have N89 : g8 ≠ g9 := by have := heap_lt hng8; omega
        have N8a : g8 ≠ ba := by have := HK.out.1; omega
        have N8b : g8 ≠ bb := by have := HK.out.2; omega
        have N9a : g9 ≠ ba := by have := HK.out.1; omega
        have N9b : g9 ≠ bb := by have := HK.out.2; omega
        clear hng8 hng9 hbg8 hbg9
        refine wpAnyH_ready (rs := [10]) (by kernel_rfl) (by simp) ?_
        refine AllReadyH.cons rfl (fun K hK => ?_) AllReadyH.nil
        have c0 := cell_of_row _ _ 0 _ _ _ H8
        have c1 := cell_of_row _ _ 1 _ _ _ H8
        have c2 := cell_of_row _ _ 2 _ _ _ H8
        have c3 := cell_of_row _ _ 3 _ _ _ H8
        have f0 := frozen_of_row _ g8 0 _ _ H8
        have f1 := frozen_of_row _ g8 1 _ _ H8
        have f2 := frozen_of_row _ g8 2 _ _ H8
        have f3 := frozen_of_row _ g8 3 _ _ H8
        have jl8 := heap_lt H8
        go_simp
        refine hK.out _ _ ⟨cell_set4 N8a hHeld.1, cell_set4 N8a hHeld.2.1, cell_set4 N8a hHeld.2.2.1, cell_set4 N8a hHeld.2.2.2.1, cell_set4 N8b hHeld.2.2.2.2.1, cell_set4 N8b hHeld.2.2.2.2.2.1, cell_set4 N8b hHeld.2.2.2.2.2.2.1, cell_set4 N8b hHeld.2.2.2.2.2.2.2⟩ (fun hHeld => ?_)
        clear hK K
        (try simp only [Act.put, List.setIfInBounds_toArray, List.set_cons_zero, List.set_cons_succ])
        have e8 := heap_set4 (v0 := .int .i64 xk) (v1 := .int .i64 xn) (v2 := .int .i64 xv) (v3 := .string (st xt)) H8
        have e9 := (set4_far wB (v0 := .int .i64 xk) (v1 := .int .i64 xn) (v2 := .int .i64 xv) (v3 := .string (st xt)) N89).trans H9
        have eb := below_set4 (v0 := .int .i64 xk) (v1 := .int .i64 xn) (v2 := .int .i64 xv) (v3 := .string (st xt)) HBB (show w.heap.size ≤ g8 by omega)
        obtain ⟨wF, hwF⟩ : ∃ W, set4 wB g8 (.int .i64 xk) (.int .i64 xn) (.int .i64 xv) (.string (st xt)) = W := ⟨_, rfl⟩
        have hwF2 := hwF
        unfold set4 at hwF2
        rw [hwF2] at hHeld ⊢
        rw [hwF] at e8 e9 eb
        clear hwF hwF2 c0 c1 c2 c3 f0 f1 f2 f3 jl8 H8 H9 HBB
        refine wpAnyH_ready (rs := [11]) (by kernel_rfl) (by simp) ?_
        refine AllReadyH.cons rfl (fun K hK => ?_) AllReadyH.nil
        have c0 := cell_of_row _ _ 0 _ _ _ e9
        have c1 := cell_of_row _ _ 1 _ _ _ e9
        have c2 := cell_of_row _ _ 2 _ _ _ e9
        have c3 := cell_of_row _ _ 3 _ _ _ e9
        have f0 := frozen_of_row _ g9 0 _ _ e9
        have f1 := frozen_of_row _ g9 1 _ _ e9
        have f2 := frozen_of_row _ g9 2 _ _ e9
        have f3 := frozen_of_row _ g9 3 _ _ e9
        have jl9 := heap_lt e9
        go_simp
        refine hK.out _ _ ⟨cell_set4 N9a hHeld.1, cell_set4 N9a hHeld.2.1, cell_set4 N9a hHeld.2.2.1, cell_set4 N9a hHeld.2.2.2.1, cell_set4 N9b hHeld.2.2.2.2.1, cell_set4 N9b hHeld.2.2.2.2.2.1, cell_set4 N9b hHeld.2.2.2.2.2.2.1, cell_set4 N9b hHeld.2.2.2.2.2.2.2⟩ (fun hHeld => ?_)
        clear hK K
        (try simp only [Act.put, List.setIfInBounds_toArray, List.set_cons_zero, List.set_cons_succ])
        refine wpAnyH_done (by kernel_rfl) ?_ _
        (try simp only [Act.put, List.setIfInBounds_toArray, List.set_cons_zero, List.set_cons_succ])
        have s9 := heap_set4 (v0 := .int .i64 xk) (v1 := .int .i64 yn) (v2 := .int .i64 xv) (v3 := .string (st xt)) e9
        have s8 := (set4_far wF (v0 := .int .i64 xk) (v1 := .int .i64 yn) (v2 := .int .i64 xv) (v3 := .string (st xt)) (Ne.symm N89)).trans e8
        have sb := below_set4 (v0 := .int .i64 xk) (v1 := .int .i64 yn) (v2 := .int .i64 xv) (v3 := .string (st xt)) eb (show w.heap.size ≤ g9 by omega)
        obtain ⟨wG, hwG⟩ : ∃ W, set4 wF g9 (.int .i64 xk) (.int .i64 yn) (.int .i64 xv) (.string (st xt)) = W := ⟨_, rfl⟩
        have hwG2 := hwG
        unfold set4 at hwG2
        rw [hwG2]
        rw [hwG] at s8 s9 sb
        clear hwG hwG2 c0 c1 c2 c3 f0 f1 f2 f3 jl9 e8 e9 eb hHeld k0 k1 k2 k3 j0 j1 j2 j3
        have p0 := cell_of_row _ _ 0 _ _ _ s8
        have p1 := cell_of_row _ _ 1 _ _ _ s8
        have p2 := cell_of_row _ _ 2 _ _ _ s8
        have p3 := cell_of_row _ _ 3 _ _ _ s8
        have q0 := cell_of_row _ _ 0 _ _ _ s9
        have q1 := cell_of_row _ _ 1 _ _ _ s9
        have q2 := cell_of_row _ _ 2 _ _ _ s9
        have q3 := cell_of_row _ _ 3 _ _ _ s9
        have pl := heap_lt s8
        have ql := heap_lt s9
        have pf := frozen_of_row _ g8 1 _ _ s8
        have qf := frozen_of_row _ g9 1 _ _ s9
        have SB := Lib.hid sb
        have hg8 : w.heap.size ≤ g8 := by omega
        have hg9 : w.heap.size ≤ g9 := by omega
        clear s8 s9 sb
        cases lines
        · have HS2 := Lib.hid ((SB.out.setCell (p := ⟨g8, 1, none⟩) hg8 (.int .i64 0)).setCell (p := ⟨g9, 1, none⟩) hg9 (.int .i64 0))
          go_wp2_with fail
          go_roundw
          case rel => exact ⟨i + 1, by omega, by go_num, HS2⟩
          case measure => simp [intOf]; omega
        · obtain rfl : xn = yn := E4.out rfl
          go_wp2_with fail
          go_roundw
          case rel => exact ⟨i + 1, by omega, by go_num, SB⟩
          case measure => simp [intOf]; omega
      · go_simp
        refine hK.out _ _ ⟨cell_ml _ hHeld.1, cell_ml _ hHeld.2.1, cell_ml _ hHeld.2.2.1, cell_ml _ hHeld.2.2.2.1, cell_ml _ hHeld.2.2.2.2.1, cell_ml _ hHeld.2.2.2.2.2.1, cell_ml _ hHeld.2.2.2.2.2.2.1, cell_ml _ hHeld.2.2.2.2.2.2.2⟩ (fun hHeld => ?_)
        clear hK K
        (try simp only [Act.put, List.setIfInBounds_toArray, List.set_cons_zero, List.set_cons_succ])
        obtain ⟨wA, hw2⟩ : ∃ W, wd.alloc (.cells #[.int .i64 0, .int .i64 0, .int .i64 0, .string ⟨#[]⟩] 33) = W := ⟨_, rfl⟩
        obtain ⟨g9, hg⟩ : ∃ x, wd.heap.size = x := ⟨_, rfl⟩
        have hng9 := heap_alloc_new wd (.cells #[.int .i64 0, .int .i64 0, .int .i64 0, .string ⟨#[]⟩] 33)
        have hbg9 := below_alloc wd (.cells #[.int .i64 0, .int .i64 0, .int .i64 0, .string ⟨#[]⟩] 33)
        rw [hw2] at hng9 hbg9 hHeld ⊢
        rw [hg] at hng9
        have hlg9 : wd.heap.size ≤ g9 := by omega
        (try rw [hg])
        have hsg9 := hbg9.size
        clear hw2 hg
        refine wpAnyH_ready (rs := [8]) (by kernel_rfl) (by simp) ?_
        refine AllReadyH.cons rfl (fun K hK => ?_) AllReadyH.nil
        go_simp
        refine hK.out _ _ ⟨cell_ml _ hHeld.1, cell_ml _ hHeld.2.1, cell_ml _ hHeld.2.2.1, cell_ml _ hHeld.2.2.2.1, cell_ml _ hHeld.2.2.2.2.1, cell_ml _ hHeld.2.2.2.2.2.1, cell_ml _ hHeld.2.2.2.2.2.2.1, cell_ml _ hHeld.2.2.2.2.2.2.2⟩ (fun hHeld => ?_)
        clear hK K
        (try simp only [Act.put, List.setIfInBounds_toArray, List.set_cons_zero, List.set_cons_succ])
        obtain ⟨wB, hw2⟩ : ∃ W, wA.alloc (.cells #[.int .i64 0, .int .i64 0, .int .i64 0, .string ⟨#[]⟩] 33) = W := ⟨_, rfl⟩
        obtain ⟨g8, hg⟩ : ∃ x, wA.heap.size = x := ⟨_, rfl⟩
        have hng8 := heap_alloc_new wA (.cells #[.int .i64 0, .int .i64 0, .int .i64 0, .string ⟨#[]⟩] 33)
        have hbg8 := below_alloc wA (.cells #[.int .i64 0, .int .i64 0, .int .i64 0, .string ⟨#[]⟩] 33)
        rw [hw2] at hng8 hbg8 hHeld ⊢
        rw [hg] at hng8
        have hlg8 : wA.heap.size ≤ g8 := by omega
        (try rw [hg])
        have hsg8 := hbg8.size
        clear hw2 hg
        have H9 := (hbg8.block g9 (heap_lt hng9)).trans hng9
        have H8 := hng8
        have HBB := (HBD.out.trans (hbg9.mono HBD.out.size)).trans (hbg8.mono (by omega))
        have N89 : g8 ≠ g9 := by have := heap_lt hng9; omega
        have N8a : g8 ≠ ba := by have := HK.out.1; omega
        have N8b : g8 ≠ bb := by have := HK.out.2; omega
        have N9a : g9 ≠ ba := by have := HK.out.1; omega
        have N9b : g9 ≠ bb := by have := HK.out.2; omega
        clear hng9 hng8 hbg9 hbg8
        refine wpAnyH_ready (rs := [10]) (by kernel_rfl) (by simp) ?_
        refine AllReadyH.cons rfl (fun K hK => ?_) AllReadyH.nil
        have c0 := cell_of_row _ _ 0 _ _ _ H8
        have c1 := cell_of_row _ _ 1 _ _ _ H8
        have c2 := cell_of_row _ _ 2 _ _ _ H8
        have c3 := cell_of_row _ _ 3 _ _ _ H8
        have f0 := frozen_of_row _ g8 0 _ _ H8
        have f1 := frozen_of_row _ g8 1 _ _ H8
        have f2 := frozen_of_row _ g8 2 _ _ H8
        have f3 := frozen_of_row _ g8 3 _ _ H8
        have jl8 := heap_lt H8
        go_simp
        refine hK.out _ _ ⟨cell_set4 N8a hHeld.1, cell_set4 N8a hHeld.2.1, cell_set4 N8a hHeld.2.2.1, cell_set4 N8a hHeld.2.2.2.1, cell_set4 N8b hHeld.2.2.2.2.1, cell_set4 N8b hHeld.2.2.2.2.2.1, cell_set4 N8b hHeld.2.2.2.2.2.2.1, cell_set4 N8b hHeld.2.2.2.2.2.2.2⟩ (fun hHeld => ?_)
        clear hK K
        (try simp only [Act.put, List.setIfInBounds_toArray, List.set_cons_zero, List.set_cons_succ])
        have e8 := heap_set4 (v0 := .int .i64 xk) (v1 := .int .i64 xn) (v2 := .int .i64 xv) (v3 := .string (st xt)) H8
        have e9 := (set4_far wB (v0 := .int .i64 xk) (v1 := .int .i64 xn) (v2 := .int .i64 xv) (v3 := .string (st xt)) N89).trans H9
        have eb := below_set4 (v0 := .int .i64 xk) (v1 := .int .i64 xn) (v2 := .int .i64 xv) (v3 := .string (st xt)) HBB (show w.heap.size ≤ g8 by omega)
        obtain ⟨wF, hwF⟩ : ∃ W, set4 wB g8 (.int .i64 xk) (.int .i64 xn) (.int .i64 xv) (.string (st xt)) = W := ⟨_, rfl⟩
        have hwF2 := hwF
        unfold set4 at hwF2
        rw [hwF2] at hHeld ⊢
        rw [hwF] at e8 e9 eb
        clear hwF hwF2 c0 c1 c2 c3 f0 f1 f2 f3 jl8 H8 H9 HBB
        refine wpAnyH_ready (rs := [11]) (by kernel_rfl) (by simp) ?_
        refine AllReadyH.cons rfl (fun K hK => ?_) AllReadyH.nil
        have c0 := cell_of_row _ _ 0 _ _ _ e9
        have c1 := cell_of_row _ _ 1 _ _ _ e9
        have c2 := cell_of_row _ _ 2 _ _ _ e9
        have c3 := cell_of_row _ _ 3 _ _ _ e9
        have f0 := frozen_of_row _ g9 0 _ _ e9
        have f1 := frozen_of_row _ g9 1 _ _ e9
        have f2 := frozen_of_row _ g9 2 _ _ e9
        have f3 := frozen_of_row _ g9 3 _ _ e9
        have jl9 := heap_lt e9
        go_simp
        refine hK.out _ _ ⟨cell_set4 N9a hHeld.1, cell_set4 N9a hHeld.2.1, cell_set4 N9a hHeld.2.2.1, cell_set4 N9a hHeld.2.2.2.1, cell_set4 N9b hHeld.2.2.2.2.1, cell_set4 N9b hHeld.2.2.2.2.2.1, cell_set4 N9b hHeld.2.2.2.2.2.2.1, cell_set4 N9b hHeld.2.2.2.2.2.2.2⟩ (fun hHeld => ?_)
        clear hK K
        (try simp only [Act.put, List.setIfInBounds_toArray, List.set_cons_zero, List.set_cons_succ])
        refine wpAnyH_done (by kernel_rfl) ?_ _
        (try simp only [Act.put, List.setIfInBounds_toArray, List.set_cons_zero, List.set_cons_succ])
        have s9 := heap_set4 (v0 := .int .i64 xk) (v1 := .int .i64 yn) (v2 := .int .i64 xv) (v3 := .string (st xt)) e9
        have s8 := (set4_far wF (v0 := .int .i64 xk) (v1 := .int .i64 yn) (v2 := .int .i64 xv) (v3 := .string (st xt)) (Ne.symm N89)).trans e8
        have sb := below_set4 (v0 := .int .i64 xk) (v1 := .int .i64 yn) (v2 := .int .i64 xv) (v3 := .string (st xt)) eb (show w.heap.size ≤ g9 by omega)
        obtain ⟨wG, hwG⟩ : ∃ W, set4 wF g9 (.int .i64 xk) (.int .i64 yn) (.int .i64 xv) (.string (st xt)) = W := ⟨_, rfl⟩
        have hwG2 := hwG
        unfold set4 at hwG2
        rw [hwG2]
        rw [hwG] at s8 s9 sb
        clear hwG hwG2 c0 c1 c2 c3 f0 f1 f2 f3 jl9 e8 e9 eb hHeld k0 k1 k2 k3 j0 j1 j2 j3
        have p0 := cell_of_row _ _ 0 _ _ _ s8
        have p1 := cell_of_row _ _ 1 _ _ _ s8
        have p2 := cell_of_row _ _ 2 _ _ _ s8
        have p3 := cell_of_row _ _ 3 _ _ _ s8
        have q0 := cell_of_row _ _ 0 _ _ _ s9
        have q1 := cell_of_row _ _ 1 _ _ _ s9
        have q2 := cell_of_row _ _ 2 _ _ _ s9
        have q3 := cell_of_row _ _ 3 _ _ _ s9
        have pl := heap_lt s8
        have ql := heap_lt s9
        have pf := frozen_of_row _ g8 1 _ _ s8
        have qf := frozen_of_row _ g9 1 _ _ s9
        have SB := Lib.hid sb
        have hg8 : w.heap.size ≤ g8 := by omega
        have hg9 : w.heap.size ≤ g9 := by omega
        clear s8 s9 sb
        cases lines
        · have HS2 := Lib.hid ((SB.out.setCell (p := ⟨g8, 1, none⟩) hg8 (.int .i64 0)).setCell (p := ⟨g9, 1, none⟩) hg9 (.int .i64 0))
          go_wp2_with fail
          go_roundw
          case rel => exact ⟨i + 1, by omega, by go_num, HS2⟩
          case measure => simp [intOf]; omega
        · obtain rfl : xn = yn := E4.out rfl
          go_wp2_with fail
          go_roundw
          case rel => exact ⟨i + 1, by omega, by go_num, SB⟩
          case measure => simp [intOf]; omega
    · obtain rfl : i = n := by omega
      go_wp2_with fail
      go_ret
      exact ⟨rfl, HR.out⟩
end Go.Proofs.YthcagbplolcbpaaDoor
namespace Go.Proofs.YthcagbplolcbpaaDoor
open Go.ChangeShapes Go.WideShapes Go.ChangeAt Go.RowKit
set_option linter.unusedVariables false
set_option linter.unusedSimpArgs false

def oddL : List Bt := [[40], [41], [123], [125], [59], [61], [109, 97, 105, 110], [102, 49], [103, 48], [97], [112, 48], [49, 50], [48], [102, 117, 110, 99], [118, 97, 114], [105, 102], [101, 108, 115, 101], [119, 104, 105, 108, 101], [114, 101, 116, 117, 114, 110], [112, 114, 105, 110, 116], [99, 97, 108, 108], [114, 101, 97, 100], [103, 108, 111, 98, 97, 108], [91], [93], [44], [38], [38, 38], [33], [35], [10], [49, 97], [36], [45]]
theorem oddL_len : ∀ l ∈ oddL, l.length ≤ 6 := by decide
/-- some string, not too long -/
def SomeStr (gc m : Nat) (w : World) (e : Ending) (w' : World) : Prop := ∃ l : Bt, e = .returned (.string (st l)) ∧ l.length ≤ m ∧ Cod w' gc ∧ w.grownBy w' (some gc)
theorem ext_st (T : Bt) (i j : Nat) (hj : j ≤ T.length) : ∃ A : Bt, (st T).extract i j = st A ∧ A.length = j - i := ⟨(T.take j).drop i, by rw [st_ext], by rw [List.length_drop, List.length_take]; omega⟩
theorem oddL_at {g : Nat} {W : World} (h : W.heap[g]? = some (.cells (strs oddL).toArray 9 (0, 0))) : ∀ (j : Nat) (x : Bt), oddL[j]? = some x → W.cell? ⟨g, j, none⟩ = some (.string (st x)) := fun j x hj => by
  rw [cell_of_row W g j _ _ _ h, List.getElem?_toArray]
  exact strs_at oddL j x hj
set_option maxRecDepth 100000 in
set_option maxHeartbeats 8000000 in
theorem OddText_any (gc : Nat) (w : World) (h : Cod w gc) : Calls Tryd.prog 14 #[.pointer (some ⟨gc, 0, none⟩)] w (SomeStr gc 40000 w) := by
  have HC := Lib.hid h
  clear h
  go_enter Tryd.func14, Tryd.ntmps14
  go_wp2_with fail
  refine (Text_any gc _ HC.out).mono ?_
  rintro e w1 ⟨wx, gs, fs, Fs, aa, ca, ab, cb, rfl, hc1, hg1, hs1⟩
  have hTl := hs1.len
  obtain ⟨T, hT⟩ : ∃ T, fmtP gs Fs = T := ⟨_, rfl⟩
  rw [hT] at hTl ⊢
  clear hT hs1
  have hA := below_alloc w1 (.cells (strs oddL).toArray 9)
  have hr := heap_alloc_new w1 (.cells (strs oddL).toArray 9)
  have HC2 := Lib.hid (hc1.below hA hc1.lt)
  have HG2 := Lib.hid (grownBy_trans hg1 (grownBy_of_below hA _))
  have hgc := hc1.lt
  go_upto_region 3 with fail
  obtain ⟨w2, hw2⟩ : ∃ W, w1.alloc (.cells (strs oddL).toArray 9) = W := ⟨_, rfl⟩
  have hw3 := hw2
  simp only [oddL, strs, List.map_cons, List.map_nil] at hw3
  obtain ⟨g, hg⟩ : ∃ x, w1.heap.size = x := ⟨_, rfl⟩
  rw [hw3]
  rw [hw2] at hr HC2 HG2
  rw [hg] at hr hgc ⊢
  have HR := Lib.hid hr
  have HGC := Lib.hid hgc
  clear hw2 hw3 hg hA hr hc1 hg1
  have hT64 : T.length ≤ 37000 := hTl
  clear hTl
  by_cases hz : T = []
  · have hz0 : T.length = 0 := by rw [hz]; rfl
    have hd : ((T.length : Int) == 0) = true := by rw [beq_iff_eq]; omega
    clear hz
    go_wp2_with fail
    refine (Next_any gc 34 (by omega) _ HC2.out).mono ?_
    rintro e w3 ⟨z, rfl, z0, z1, hc3, hg3⟩
    have z2 := z1
    obtain ⟨z, rfl⟩ := Int.eq_ofNat_of_zero_le z0
    have hr3 := (hg3.block g (heap_lt HR.out) (fun e => by injection e with e; have := HGC.out; omega)).trans HR.out
    obtain ⟨x, hx⟩ : ∃ x, oddL[z]? = some x := ⟨_, List.getElem?_eq_getElem (by show z < 34; omega)⟩
    have hcx := oddL_at hr3 z x hx
    have hxl := oddL_len x (List.mem_of_getElem? hx)
    have HF := Lib.hid (And.intro hc3 (grownBy_trans HG2.out hg3))
    have hz34 : (z : Int) < 34 := by omega
    clear z1 z2 hr3 hx hc3 hg3
    go_wp2_with fail
    refine bodyPost_ret (v := .string (st x)) (by simp [results, Tryd.results14, go_sem]) rfl ?_
    exact ⟨x, rfl, by omega, HF.out⟩
  have hTp : 0 < T.length := by cases T; exact absurd rfl hz; simp
  have hd : ((T.length : Int) == 0) = false := by rw [beq_eq_false_iff_ne]; omega
  clear hz
  go_wp2_with fail
  refine (Next_any gc T.length (by omega) _ HC2.out).mono ?_
  rintro e w3 ⟨k, rfl, z0, z1, hc3, hg3⟩
  have z2 := z1
  obtain ⟨k, rfl⟩ := Int.eq_ofNat_of_zero_le z0
  have hk : k < T.length := by omega
  have hr3 := (hg3.block g (heap_lt HR.out) (fun e => by injection e with e; have := HGC.out; omega)).trans HR.out
  have HC3 := Lib.hid hc3
  have HG3 := Lib.hid (grownBy_trans HG2.out hg3)
  clear z0 z1 z2 hc3 hg3
  go_wp2_with fail
  refine (Next_any gc 3 (by omega) _ HC3.out).mono ?_
  rintro e w4 ⟨m, rfl, z0, z1, hc4, hg4⟩
  have z2 := z1
  have hr4 := (hg4.block g (heap_lt HR.out |> fun _ => heap_lt hr3) (fun e => by injection e with e; have := HGC.out; omega)).trans hr3
  have HC4 := Lib.hid hc4
  have HG4 := Lib.hid (grownBy_trans HG3.out hg4)
  have HR4 := Lib.hid hr4
  have HTAB : Hid (∀ W, w4.grownBy W (some gc) → ∀ (j : Nat) (x : Bt), oddL[j]? = some x → W.cell? ⟨g, j, none⟩ = some (.string (st x))) := Lib.hid (fun W hW => oddL_at ((hW.block g (heap_lt HR4.out) (fun e => by injection e with e; have := HGC.out; omega)).trans HR4.out))
  clear z1 hc4 hg4 hr3 hr4
  obtain ⟨A, hA, hAl⟩ := ext_st T 0 k (by omega)
  obtain ⟨B, hB, hBl⟩ := ext_st T (k + 1) T.length (Nat.le_refl _)
  obtain ⟨C, hC, hCl⟩ := ext_st T k T.length (Nat.le_refl _)
  have hk1 : (k : Int) + 1 ≤ (T.length : Int) := by omega
  have hk2 : (k : Int) ≤ (T.length : Int) := by omega
  have hk3 : (0 : Int) ≤ (k : Int) + 1 := by omega
  have hk4 : (0 : Int) ≤ (k : Int) := by omega
  have hw1 : IntKind.i64.wrap ((k : Int) + 1) = (k : Int) + 1 := by rw [IntKind.wrap_i64]; omega
  have hst := st_app
  have hab : ¬ 9223372036854775807 < A.length + B.length := by omega
  have HAL := Lib.hid hAl
  have HBL := Lib.hid hBl
  have HCL := Lib.hid hCl
  clear hAl hBl hCl
  have hm : m = 0 ∨ m = 1 ∨ m = 2 := by omega
  clear z0 z2
  rcases hm with rfl | rfl | rfl
  · go_upto_region 8 with fail
    refine wp_region_held_drew (S := (fun _ => True)) (by kernel_rfl) trivial (fun hHeld => ?_)
    refine wpAnyH_takeD (i := 0) (d := some 27) (v := ?_) rfl (by kernel_rfl) (by kernel_rfl) (by kernel_rfl) (by kernel_rfl) (fun _ _ _ h => h) (Or.inl ⟨by kernel_rfl, ?_⟩) (by assumption) ?_
    rotate_left
    · (intro w hSw; (try dsimp only at hSw); go_simp; try with_reducible rfl)
    (try simp only [Act.put, List.setIfInBounds_toArray, List.set_cons_zero, List.set_cons_succ])
    refine wpAnyH_takeD (i := 1) (d := some 28) (v := ?_) rfl (by kernel_rfl) (by kernel_rfl) (by kernel_rfl) (by kernel_rfl) (fun _ _ _ h => h) (Or.inl ⟨by kernel_rfl, ?_⟩) (by assumption) ?_
    rotate_left
    · (intro w hSw; (try dsimp only at hSw); go_simp; try with_reducible rfl)
    (try simp only [Act.put, List.setIfInBounds_toArray, List.set_cons_zero, List.set_cons_succ])
    refine wpAnyH_takeD (i := 2) (d := some 29) (v := ?_) rfl (by kernel_rfl) (by kernel_rfl) (by kernel_rfl) (by kernel_rfl) (fun _ _ _ h => h) (Or.inl ⟨by kernel_rfl, ?_⟩) (by assumption) ?_
    rotate_left
    · (intro w hSw; (try dsimp only at hSw); go_simp; try with_reducible rfl)
    (try simp only [Act.put, List.setIfInBounds_toArray, List.set_cons_zero, List.set_cons_succ])
    refine wpAnyH_takeD (i := 3) (d := some 30) (v := ?_) rfl (by kernel_rfl) (by kernel_rfl) (by kernel_rfl) (by kernel_rfl) (fun _ _ _ h => h) (Or.inl ⟨by kernel_rfl, ?_⟩) (by assumption) ?_
    rotate_left
    · (intro w hSw; (try dsimp only at hSw); go_simp; try with_reducible rfl)
    (try simp only [Act.put, List.setIfInBounds_toArray, List.set_cons_zero, List.set_cons_succ])
    refine wpAnyH_takeD (i := 4) (d := some 31) (v := ?_) rfl (by kernel_rfl) (by kernel_rfl) (by kernel_rfl) (by kernel_rfl) (fun _ _ _ h => h) (Or.inl ⟨by kernel_rfl, ?_⟩) (by assumption) ?_
    rotate_left
    · (intro w hSw; (try dsimp only at hSw); go_simp; try with_reducible rfl)
    (try simp only [Act.put, List.setIfInBounds_toArray, List.set_cons_zero, List.set_cons_succ])
    refine wpAnyH_takeD (i := 5) (d := some 32) (v := ?_) rfl (by kernel_rfl) (by kernel_rfl) (by kernel_rfl) (by kernel_rfl) (fun _ _ _ h => h) (Or.inl ⟨by kernel_rfl, ?_⟩) (by assumption) ?_
    rotate_left
    · (intro w hSw; (try dsimp only at hSw); go_simp; try with_reducible rfl)
    (try simp only [Act.put, List.setIfInBounds_toArray, List.set_cons_zero, List.set_cons_succ])
    refine wpAnyH_takeD (i := 6) (d := some 33) (v := ?_) rfl (by kernel_rfl) (by kernel_rfl) (by kernel_rfl) (by kernel_rfl) (fun _ _ _ h => h) (Or.inl ⟨by kernel_rfl, ?_⟩) (by assumption) ?_
    rotate_left
    · (intro w hSw; (try dsimp only at hSw); go_simp; try with_reducible rfl)
    (try simp only [Act.put, List.setIfInBounds_toArray, List.set_cons_zero, List.set_cons_succ])
    refine wpAnyH_takeD (i := 7) (d := some 34) (v := ?_) rfl (by kernel_rfl) (by kernel_rfl) (by kernel_rfl) (by kernel_rfl) (fun _ _ _ h => h) (Or.inl ⟨by kernel_rfl, ?_⟩) (by assumption) ?_
    rotate_left
    · (intro w hSw; (try dsimp only at hSw); go_simp; try with_reducible rfl)
    (try simp only [Act.put, List.setIfInBounds_toArray, List.set_cons_zero, List.set_cons_succ])
    refine wpAnyH_takeD (i := 8) (d := some 2) (v := ?_) rfl (by kernel_rfl) (by kernel_rfl) (by kernel_rfl) (by kernel_rfl) (fun _ _ _ h => h) (Or.inl ⟨by kernel_rfl, ?_⟩) (by assumption) ?_
    rotate_left
    · (intro w hSw; (try dsimp only at hSw); go_simp; try with_reducible rfl)
    (try simp only [Act.put, List.setIfInBounds_toArray, List.set_cons_zero, List.set_cons_succ])
    refine wpAnyH_done (by kernel_rfl) ?_ _
    (try simp only [Act.put, List.setIfInBounds_toArray, List.set_cons_zero, List.set_cons_succ])
    go_wp2_with fail
    refine bodyPost_ret (v := .string (st (A ++ B))) (by simp [results, Tryd.results14, go_sem]) rfl ?_
    exact ⟨A ++ B, rfl, by have := HAL.out; have := HBL.out; rw [List.length_append]; omega, HC4.out.drew, grownBy_trans HG4.out (grownBy_drewN _ 1 _)⟩
  · go_upto_region 10 with fail
    have hS0 : ∀ (j : Nat) (x : Bt), oddL[j]? = some x → w4.drew.cell? ⟨g, j, none⟩ = some (.string (st x)) := HTAB.out _ (grownBy_drewN _ 1 _)
    refine wp_region_held_drew (S := (fun w' => ∀ (j : Nat) (x : Bt), oddL[j]? = some x → w'.cell? ⟨g, j, none⟩ = some (.string (st x)))) (by kernel_rfl) hS0 (fun hHeld => ?_)
    refine wpAnyH_takeD (i := 0) (d := some 37) (v := ?_) rfl (by kernel_rfl) (by kernel_rfl) (by kernel_rfl) (by kernel_rfl) (fun _ _ _ h => h) (Or.inl ⟨by kernel_rfl, ?_⟩) (by assumption) ?_
    rotate_left
    · (intro w hSw; (try dsimp only at hSw); go_simp; try with_reducible rfl)
    (try simp only [Act.put, List.setIfInBounds_toArray, List.set_cons_zero, List.set_cons_succ])
    refine wpAnyH_takeD (i := 1) (d := some 38) (v := ?_) rfl (by kernel_rfl) (by kernel_rfl) (by kernel_rfl) (by kernel_rfl) (fun _ _ _ h => h) (Or.inl ⟨by kernel_rfl, ?_⟩) (by assumption) ?_
    rotate_left
    · (intro w hSw; (try dsimp only at hSw); go_simp; try with_reducible rfl)
    (try simp only [Act.put, List.setIfInBounds_toArray, List.set_cons_zero, List.set_cons_succ])
    refine wpAnyH_takeD (i := 2) (d := some 39) (v := ?_) rfl (by kernel_rfl) (by kernel_rfl) (by kernel_rfl) (by kernel_rfl) (fun _ _ _ h => h) (Or.inl ⟨by kernel_rfl, ?_⟩) (by assumption) ?_
    rotate_left
    · (intro w hSw; (try dsimp only at hSw); go_simp; try with_reducible rfl)
    (try simp only [Act.put, List.setIfInBounds_toArray, List.set_cons_zero, List.set_cons_succ])
    refine wpAnyH_takeD (i := 3) (d := some 40) (v := ?_) rfl (by kernel_rfl) (by kernel_rfl) (by kernel_rfl) (by kernel_rfl) (fun _ _ _ h => h) (Or.inl ⟨by kernel_rfl, ?_⟩) (by assumption) ?_
    rotate_left
    · (intro w hSw; (try dsimp only at hSw); go_simp; try with_reducible rfl)
    (try simp only [Act.put, List.setIfInBounds_toArray, List.set_cons_zero, List.set_cons_succ])
    refine wpAnyH_takeD (i := 4) (d := some 41) (v := ?_) rfl (by kernel_rfl) (by kernel_rfl) (by kernel_rfl) (by kernel_rfl) (fun _ _ _ h => h) (Or.inl ⟨by kernel_rfl, ?_⟩) (by assumption) ?_
    rotate_left
    · (intro w hSw; (try dsimp only at hSw); go_simp; try with_reducible rfl)
    (try simp only [Act.put, List.setIfInBounds_toArray, List.set_cons_zero, List.set_cons_succ])
    refine wpAnyH_takeD (i := 5) (d := some 42) (v := ?_) rfl (by kernel_rfl) (by kernel_rfl) (by kernel_rfl) (by kernel_rfl) (fun _ _ _ h => h) (Or.inl ⟨by kernel_rfl, ?_⟩) (by assumption) ?_
    rotate_left
    · (intro w hSw; (try dsimp only at hSw); go_simp; try with_reducible rfl)
    (try simp only [Act.put, List.setIfInBounds_toArray, List.set_cons_zero, List.set_cons_succ])
    refine wpAnyH_takeD (i := 6) (d := some 43) (v := ?_) rfl (by kernel_rfl) (by kernel_rfl) (by kernel_rfl) (by kernel_rfl) (fun _ _ _ h => h) (Or.inl ⟨by kernel_rfl, ?_⟩) (by assumption) ?_
    rotate_left
    · (intro w hSw; (try dsimp only at hSw); go_simp; try with_reducible rfl)
    (try simp only [Act.put, List.setIfInBounds_toArray, List.set_cons_zero, List.set_cons_succ])
    refine wpAnyH_takeD (i := 11) (d := some 48) (v := ?_) rfl (by kernel_rfl) (by kernel_rfl) (by kernel_rfl) (by kernel_rfl) (fun _ _ _ h => h) (Or.inl ⟨by kernel_rfl, ?_⟩) (by assumption) ?_
    rotate_left
    · (intro w hSw; (try dsimp only at hSw); go_simp; try with_reducible rfl)
    (try simp only [Act.put, List.setIfInBounds_toArray, List.set_cons_zero, List.set_cons_succ])
    refine wpAnyH_takeD (i := 12) (d := some 49) (v := ?_) rfl (by kernel_rfl) (by kernel_rfl) (by kernel_rfl) (by kernel_rfl) (fun _ _ _ h => h) (Or.inl ⟨by kernel_rfl, ?_⟩) (by assumption) ?_
    rotate_left
    · (intro w hSw; (try dsimp only at hSw); go_simp; try with_reducible rfl)
    (try simp only [Act.put, List.setIfInBounds_toArray, List.set_cons_zero, List.set_cons_succ])
    refine wpAnyH_takeD (i := 13) (d := some 50) (v := ?_) rfl (by kernel_rfl) (by kernel_rfl) (by kernel_rfl) (by kernel_rfl) (fun _ _ _ h => h) (Or.inl ⟨by kernel_rfl, ?_⟩) (by assumption) ?_
    rotate_left
    · (intro w hSw; (try dsimp only at hSw); go_simp; try with_reducible rfl)
    (try simp only [Act.put, List.setIfInBounds_toArray, List.set_cons_zero, List.set_cons_succ])
    refine wpAnyH_ready (rs := [7]) (by kernel_rfl) (by simp) ?_
    refine AllReadyH.cons rfl (fun K hK => ?_) AllReadyH.nil
    go_simp
    refine (Next_any gc 34 (by omega) _ HC4.out.drew).mono ?_
    rintro e wy ⟨y, rfl, y0, y1, hcod, hg0⟩
    have y2 := y1
    obtain ⟨y, rfl⟩ := Int.eq_ofNat_of_zero_le y0
    have hg := grownBy_trans (grownBy_drewN w4 1 (some gc)) hg0
    refine hK.out _ _ (HTAB.out _ hg) (fun hHeld => ?_)
    clear hK K hg0
    (try simp only [Act.put, List.setIfInBounds_toArray, List.set_cons_zero, List.set_cons_succ])
    obtain ⟨x, hx⟩ : ∃ x, oddL[y]? = some x := ⟨_, List.getElem?_eq_getElem (by show y < 34; omega)⟩
    have hxl := oddL_len x (List.mem_of_getElem? hx)
    have hy34 : (y : Int) < 34 := by omega
    have HF := Lib.hid (And.intro hcod (grownBy_trans HG4.out hg))
    clear hcod hg y0 y1 y2
    have hax : ¬ 9223372036854775807 < A.length + x.length := by have := HAL.out; omega
    have haxc : ¬ 9223372036854775807 < A.length + x.length + C.length := by have := HAL.out; have := HCL.out; omega
    have haxc2 : ¬ 9223372036854775807 < A.length + (x.length + C.length) := by have := HAL.out; have := HCL.out; omega
    have habx : ¬ 9223372036854775807 < A.length + B.length + x.length := by have := HAL.out; have := HBL.out; omega
    refine wpAnyH_takeD (i := 8) (d := some 45) (v := ?_) rfl (by kernel_rfl) (by kernel_rfl) (by kernel_rfl) (by kernel_rfl) (fun _ _ _ h => h) (Or.inl ⟨by kernel_rfl, ?_⟩) (by assumption) ?_
    rotate_left
    · (intro w hSw; (try dsimp only at hSw); go_simp; try with_reducible rfl)
    (try simp only [Act.put, List.setIfInBounds_toArray, List.set_cons_zero, List.set_cons_succ])
    refine wpAnyH_takeD (i := 9) (d := some 46) (v := .string (st x)) rfl (by kernel_rfl) (by kernel_rfl) (by kernel_rfl) (by kernel_rfl) (fun _ _ _ h => h) (Or.inl ⟨by kernel_rfl, ?_⟩) (by assumption) ?_
    · (intro w hSw; have hcx := hSw y x hx; go_simp; try with_reducible rfl)
    (try simp only [Act.put, List.setIfInBounds_toArray, List.set_cons_zero, List.set_cons_succ])
    refine wpAnyH_takeD (i := 10) (d := some 47) (v := ?_) rfl (by kernel_rfl) (by kernel_rfl) (by kernel_rfl) (by kernel_rfl) (fun _ _ _ h => h) (Or.inl ⟨by kernel_rfl, ?_⟩) (by assumption) ?_
    rotate_left
    · (intro w hSw; (try dsimp only at hSw); go_simp; try with_reducible rfl)
    (try simp only [Act.put, List.setIfInBounds_toArray, List.set_cons_zero, List.set_cons_succ])
    refine wpAnyH_takeD (i := 14) (d := some 51) (v := ?_) rfl (by kernel_rfl) (by kernel_rfl) (by kernel_rfl) (by kernel_rfl) (fun _ _ _ h => h) (Or.inl ⟨by kernel_rfl, ?_⟩) (by assumption) ?_
    rotate_left
    · (intro w hSw; (try dsimp only at hSw); go_simp; try with_reducible rfl)
    (try simp only [Act.put, List.setIfInBounds_toArray, List.set_cons_zero, List.set_cons_succ])
    refine wpAnyH_takeD (i := 15) (d := some 2) (v := ?_) rfl (by kernel_rfl) (by kernel_rfl) (by kernel_rfl) (by kernel_rfl) (fun _ _ _ h => h) (Or.inl ⟨by kernel_rfl, ?_⟩) (by assumption) ?_
    rotate_left
    · (intro w hSw; (try dsimp only at hSw); go_simp; try with_reducible rfl)
    (try simp only [Act.put, List.setIfInBounds_toArray, List.set_cons_zero, List.set_cons_succ])
    refine wpAnyH_done (by kernel_rfl) ?_ _
    (try simp only [Act.put, List.setIfInBounds_toArray, List.set_cons_zero, List.set_cons_succ])
    go_wp2_with fail
    refine bodyPost_ret (v := .string (st (A ++ (x ++ C)))) (by simp [results, Tryd.results14, go_sem]) rfl ?_
    exact ⟨A ++ (x ++ C), rfl, by have := HAL.out; have := HBL.out; have := HCL.out; simp only [List.length_append]; omega, HF.out⟩
  · go_upto_region 11 with fail
    have hS0 : ∀ (j : Nat) (x : Bt), oddL[j]? = some x → w4.drew.cell? ⟨g, j, none⟩ = some (.string (st x)) := HTAB.out _ (grownBy_drewN _ 1 _)
    refine wp_region_held_drew (S := (fun w' => ∀ (j : Nat) (x : Bt), oddL[j]? = some x → w'.cell? ⟨g, j, none⟩ = some (.string (st x)))) (by kernel_rfl) hS0 (fun hHeld => ?_)
    refine wpAnyH_takeD (i := 0) (d := some 52) (v := ?_) rfl (by kernel_rfl) (by kernel_rfl) (by kernel_rfl) (by kernel_rfl) (fun _ _ _ h => h) (Or.inl ⟨by kernel_rfl, ?_⟩) (by assumption) ?_
    rotate_left
    · (intro w hSw; (try dsimp only at hSw); go_simp; try with_reducible rfl)
    (try simp only [Act.put, List.setIfInBounds_toArray, List.set_cons_zero, List.set_cons_succ])
    refine wpAnyH_takeD (i := 1) (d := some 53) (v := ?_) rfl (by kernel_rfl) (by kernel_rfl) (by kernel_rfl) (by kernel_rfl) (fun _ _ _ h => h) (Or.inl ⟨by kernel_rfl, ?_⟩) (by assumption) ?_
    rotate_left
    · (intro w hSw; (try dsimp only at hSw); go_simp; try with_reducible rfl)
    (try simp only [Act.put, List.setIfInBounds_toArray, List.set_cons_zero, List.set_cons_succ])
    refine wpAnyH_takeD (i := 2) (d := some 54) (v := ?_) rfl (by kernel_rfl) (by kernel_rfl) (by kernel_rfl) (by kernel_rfl) (fun _ _ _ h => h) (Or.inl ⟨by kernel_rfl, ?_⟩) (by assumption) ?_
    rotate_left
    · (intro w hSw; (try dsimp only at hSw); go_simp; try with_reducible rfl)
    (try simp only [Act.put, List.setIfInBounds_toArray, List.set_cons_zero, List.set_cons_succ])
    refine wpAnyH_takeD (i := 3) (d := some 55) (v := ?_) rfl (by kernel_rfl) (by kernel_rfl) (by kernel_rfl) (by kernel_rfl) (fun _ _ _ h => h) (Or.inl ⟨by kernel_rfl, ?_⟩) (by assumption) ?_
    rotate_left
    · (intro w hSw; (try dsimp only at hSw); go_simp; try with_reducible rfl)
    (try simp only [Act.put, List.setIfInBounds_toArray, List.set_cons_zero, List.set_cons_succ])
    refine wpAnyH_takeD (i := 4) (d := some 56) (v := ?_) rfl (by kernel_rfl) (by kernel_rfl) (by kernel_rfl) (by kernel_rfl) (fun _ _ _ h => h) (Or.inl ⟨by kernel_rfl, ?_⟩) (by assumption) ?_
    rotate_left
    · (intro w hSw; (try dsimp only at hSw); go_simp; try with_reducible rfl)
    (try simp only [Act.put, List.setIfInBounds_toArray, List.set_cons_zero, List.set_cons_succ])
    refine wpAnyH_takeD (i := 5) (d := some 57) (v := ?_) rfl (by kernel_rfl) (by kernel_rfl) (by kernel_rfl) (by kernel_rfl) (fun _ _ _ h => h) (Or.inl ⟨by kernel_rfl, ?_⟩) (by assumption) ?_
    rotate_left
    · (intro w hSw; (try dsimp only at hSw); go_simp; try with_reducible rfl)
    (try simp only [Act.put, List.setIfInBounds_toArray, List.set_cons_zero, List.set_cons_succ])
    refine wpAnyH_takeD (i := 6) (d := some 58) (v := ?_) rfl (by kernel_rfl) (by kernel_rfl) (by kernel_rfl) (by kernel_rfl) (fun _ _ _ h => h) (Or.inl ⟨by kernel_rfl, ?_⟩) (by assumption) ?_
    rotate_left
    · (intro w hSw; (try dsimp only at hSw); go_simp; try with_reducible rfl)
    (try simp only [Act.put, List.setIfInBounds_toArray, List.set_cons_zero, List.set_cons_succ])
    refine wpAnyH_takeD (i := 7) (d := some 59) (v := ?_) rfl (by kernel_rfl) (by kernel_rfl) (by kernel_rfl) (by kernel_rfl) (fun _ _ _ h => h) (Or.inl ⟨by kernel_rfl, ?_⟩) (by assumption) ?_
    rotate_left
    · (intro w hSw; (try dsimp only at hSw); go_simp; try with_reducible rfl)
    (try simp only [Act.put, List.setIfInBounds_toArray, List.set_cons_zero, List.set_cons_succ])
    refine wpAnyH_takeD (i := 8) (d := some 60) (v := ?_) rfl (by kernel_rfl) (by kernel_rfl) (by kernel_rfl) (by kernel_rfl) (fun _ _ _ h => h) (Or.inl ⟨by kernel_rfl, ?_⟩) (by assumption) ?_
    rotate_left
    · (intro w hSw; (try dsimp only at hSw); go_simp; try with_reducible rfl)
    (try simp only [Act.put, List.setIfInBounds_toArray, List.set_cons_zero, List.set_cons_succ])
    refine wpAnyH_takeD (i := 9) (d := some 61) (v := ?_) rfl (by kernel_rfl) (by kernel_rfl) (by kernel_rfl) (by kernel_rfl) (fun _ _ _ h => h) (Or.inl ⟨by kernel_rfl, ?_⟩) (by assumption) ?_
    rotate_left
    · (intro w hSw; (try dsimp only at hSw); go_simp; try with_reducible rfl)
    (try simp only [Act.put, List.setIfInBounds_toArray, List.set_cons_zero, List.set_cons_succ])
    refine wpAnyH_takeD (i := 10) (d := some 62) (v := ?_) rfl (by kernel_rfl) (by kernel_rfl) (by kernel_rfl) (by kernel_rfl) (fun _ _ _ h => h) (Or.inl ⟨by kernel_rfl, ?_⟩) (by assumption) ?_
    rotate_left
    · (intro w hSw; (try dsimp only at hSw); go_simp; try with_reducible rfl)
    (try simp only [Act.put, List.setIfInBounds_toArray, List.set_cons_zero, List.set_cons_succ])
    refine wpAnyH_takeD (i := 11) (d := some 63) (v := ?_) rfl (by kernel_rfl) (by kernel_rfl) (by kernel_rfl) (by kernel_rfl) (fun _ _ _ h => h) (Or.inl ⟨by kernel_rfl, ?_⟩) (by assumption) ?_
    rotate_left
    · (intro w hSw; (try dsimp only at hSw); go_simp; try with_reducible rfl)
    (try simp only [Act.put, List.setIfInBounds_toArray, List.set_cons_zero, List.set_cons_succ])
    refine wpAnyH_ready (rs := [12]) (by kernel_rfl) (by simp) ?_
    refine AllReadyH.cons rfl (fun K hK => ?_) AllReadyH.nil
    go_simp
    refine (Next_any gc 34 (by omega) _ HC4.out.drew).mono ?_
    rintro e wy ⟨y, rfl, y0, y1, hcod, hg0⟩
    have y2 := y1
    obtain ⟨y, rfl⟩ := Int.eq_ofNat_of_zero_le y0
    have hg := grownBy_trans (grownBy_drewN w4 1 (some gc)) hg0
    refine hK.out _ _ (HTAB.out _ hg) (fun hHeld => ?_)
    clear hK K hg0
    (try simp only [Act.put, List.setIfInBounds_toArray, List.set_cons_zero, List.set_cons_succ])
    obtain ⟨x, hx⟩ : ∃ x, oddL[y]? = some x := ⟨_, List.getElem?_eq_getElem (by show y < 34; omega)⟩
    have hxl := oddL_len x (List.mem_of_getElem? hx)
    have hy34 : (y : Int) < 34 := by omega
    have HF := Lib.hid (And.intro hcod (grownBy_trans HG4.out hg))
    clear hcod hg y0 y1 y2
    have hax : ¬ 9223372036854775807 < A.length + x.length := by have := HAL.out; omega
    have haxc : ¬ 9223372036854775807 < A.length + x.length + C.length := by have := HAL.out; have := HCL.out; omega
    have haxc2 : ¬ 9223372036854775807 < A.length + (x.length + C.length) := by have := HAL.out; have := HCL.out; omega
    have habx : ¬ 9223372036854775807 < A.length + B.length + x.length := by have := HAL.out; have := HBL.out; omega
    refine wpAnyH_takeD (i := 13) (d := some 65) (v := ?_) rfl (by kernel_rfl) (by kernel_rfl) (by kernel_rfl) (by kernel_rfl) (fun _ _ _ h => h) (Or.inl ⟨by kernel_rfl, ?_⟩) (by assumption) ?_
    rotate_left
    · (intro w hSw; (try dsimp only at hSw); go_simp; try with_reducible rfl)
    (try simp only [Act.put, List.setIfInBounds_toArray, List.set_cons_zero, List.set_cons_succ])
    refine wpAnyH_takeD (i := 14) (d := some 66) (v := .string (st x)) rfl (by kernel_rfl) (by kernel_rfl) (by kernel_rfl) (by kernel_rfl) (fun _ _ _ h => h) (Or.inl ⟨by kernel_rfl, ?_⟩) (by assumption) ?_
    · (intro w hSw; have hcx := hSw y x hx; go_simp; try with_reducible rfl)
    (try simp only [Act.put, List.setIfInBounds_toArray, List.set_cons_zero, List.set_cons_succ])
    refine wpAnyH_takeD (i := 15) (d := some 67) (v := ?_) rfl (by kernel_rfl) (by kernel_rfl) (by kernel_rfl) (by kernel_rfl) (fun _ _ _ h => h) (Or.inl ⟨by kernel_rfl, ?_⟩) (by assumption) ?_
    rotate_left
    · (intro w hSw; (try dsimp only at hSw); go_simp; try with_reducible rfl)
    (try simp only [Act.put, List.setIfInBounds_toArray, List.set_cons_zero, List.set_cons_succ])
    refine wpAnyH_takeD (i := 16) (d := some 2) (v := ?_) rfl (by kernel_rfl) (by kernel_rfl) (by kernel_rfl) (by kernel_rfl) (fun _ _ _ h => h) (Or.inl ⟨by kernel_rfl, ?_⟩) (by assumption) ?_
    rotate_left
    · (intro w hSw; (try dsimp only at hSw); go_simp; try with_reducible rfl)
    (try simp only [Act.put, List.setIfInBounds_toArray, List.set_cons_zero, List.set_cons_succ])
    refine wpAnyH_done (by kernel_rfl) ?_ _
    (try simp only [Act.put, List.setIfInBounds_toArray, List.set_cons_zero, List.set_cons_succ])
    go_wp2_with fail
    refine bodyPost_ret (v := .string (st (A ++ (B ++ x)))) (by simp [results, Tryd.results14, go_sem]) rfl ?_
    exact ⟨A ++ (B ++ x), rfl, by have := HAL.out; have := HBL.out; have := HCL.out; simp only [List.length_append]; omega, HF.out⟩
end Go.Proofs.YthcagbplolcbpaaDoor
namespace Go.Proofs.YthcagbplolcbpaaDoor
open Go.ChangeShapes Go.WideShapes Go.ChangeAt Go.RowKit

theorem Bs.cut {w : World} {b off n cap lo m : Nat} {zs : List Nat} (h : Bs w (some ⟨b, off, none⟩) n cap zs) (hl : lo + m ≤ n) : Bs w (some ⟨b, off + lo, none⟩) m (cap - lo) ((zs.drop lo).take m) := by
  obtain ⟨h1, h2, h3, h4, h5⟩ := h
  refine ⟨by simp; omega, by omega, by omega, (fun e => by cases e), fun hne => ?_⟩
  obtain ⟨b', off', e, hb, hc⟩ := h5 (by intro e; rw [List.map_eq_nil_iff] at e; subst e; exact hne (by simp))
  injection e with e
  injection e with e1 e2
  subst e1 e2
  refine ⟨_, _, rfl, hb, fun j u hj => ?_⟩
  rw [Nat.add_assoc]
  apply hc
  rw [← hj]
  have hjm : j < m := by have := (List.getElem?_eq_some_iff.1 hj).1; simp at this; omega
  simp [hjm]
/-- what Spoilt leaves: some bytes of its own; the choices; all else as it was -/
def SpoPost (g n : Nat) (w : World) (e : Ending) (w' : World) : Prop :=
  ∃ (a : Option Addr) (m cap : Nat) (ys : List Nat), e = .returned (.slice a m cap) ∧ Bs w' a m cap ys ∧ Byt ys ∧ m ≤ n + 1 ∧ Cod w' g ∧ w.grownBy w' (some g)
theorem own_take {w : World} {base n e k cap g : Nat} {zs : List Nat} (h : w.ownsRow base e 1 (.slice (some ⟨g, 0, none⟩) n cap) n (byts zs)) (hk : k ≤ n) : w.ownsRow base e 1 (.slice (some ⟨g, 0, none⟩) k cap) k (byts (zs.take k)) := by
  have h1 := h.1
  rcases h.2 with ⟨h2, _⟩ | ⟨g', cap', cur, h2, h3, h4, h5, h6, h7, h8⟩
  · injection h2 with h2; cases h2
  · injection h2 with h2 _ h9
    injection h2 with h2
    injection h2 with h2
    subst h2 h9
    refine ⟨by simp at h1 ⊢; omega, .inr ⟨g, cap, cur, rfl, h3, h4, by omega, h6, h7, ?_⟩⟩
    have : byts (zs.take k) = (byts zs).take k := by simp [List.map_take]
    rw [this, ← h8, List.take_take]
    congr 1
    omega
theorem below_grownS {w w' : World} (h : Below w.heap.size w w') (g : Nat) : w.grownBy w' (some g) := ⟨h.os, h.tape, h.output, h.size, fun i hi _ => h.block i hi⟩
theorem grown_alloc {w w' : World} {row : Option Nat} (h : w.grownBy w' row) (o : Obj) : w.grownBy (w'.alloc o) row :=
  grownBy_trans h ⟨rfl, rfl, rfl, by simp, fun i hi _ => Below.heap_alloc w' o i hi⟩
theorem grown_drew {w w' : World} {row : Option Nat} (h : w.grownBy w' row) : w.grownBy w'.drew row := ⟨h.os, h.tape, h.output, h.size, h.block⟩
theorem Bs.grown {w w' : World} {b off g n cap : Nat} {zs : List Nat} (h : Bs w (some ⟨b, off, none⟩) n cap zs) (hg : w.grownBy w' (some g)) (hne : b ≠ g) : Bs w' (some ⟨b, off, none⟩) n cap zs :=
  ⟨h.1, h.2.1, h.2.2.1, h.2.2.2.1, h.2.2.2.2.grown hg (fun x k e1 e2 => by injection e1 with e1; injection e2 with e2; subst e1 e2; exact hne)⟩
theorem frozen_grown {w w' : World} {g : Nat} (h : w.grownBy w' (some g)) {p : Addr} (hl : p.block < w.heap.size) (hn : p.block ≠ g) : w'.frozen? p = w.frozen? p := by
  unfold World.frozen?
  rw [h.block p.block hl (by intro e; injection e with e; exact hn e)]
theorem byts_set (zs : List Nat) (j y : Nat) : byts (zs.set j y) = (byts zs).set j (.int .u8 ((y : Nat) : Int)) := by simp
/-- what lies at a place -/
def rd (w : World) (g k : Nat) : Nat := match w.cell? ⟨g, k, none⟩ with
  | some (.int _ z) => z.toNat
  | _ => 0
/-- what the last step of Spoilt keeps -/
structure SpoI (W : World) (g g1 n cap1 : Nat) (w : World) : Prop where
  cod : Cod w g
  grown : W.grownBy w (some g)
  row : ∃ ys, Byt ys ∧ w.ownsRow W.heap.size 5 1 (.slice (some ⟨g1, 0, none⟩) n cap1) n (byts ys)
theorem SpoI.cell {W w : World} {g g1 n cap1 k : Nat} (h : SpoI W g g1 n cap1 w) (hk : k < n) : w.cell? ⟨g1, k, none⟩ = some (.int .u8 ((rd w g1 k : Nat) : Int)) := by
  obtain ⟨_, _, ys, hy, ho⟩ := h
  have hl : ys.length = n := by have := ho.1; simpa using this
  have := World.ownsRow.cells ho rfl k _ (byts_get ys k (by omega))
  rw [add_none, Nat.zero_add] at this
  unfold rd
  rw [this]
  simp
theorem SpoI.frozen {W w : World} {g g1 n cap1 : Nat} (h : SpoI W g g1 n cap1 w) (k : Nat) : w.frozen? ⟨g1, k, none⟩ = false := by
  obtain ⟨_, _, ys, hy, ho⟩ := h
  exact World.ownsRow.frozenAt ho k
theorem SpoI.call {W w w' : World} {g g1 n cap1 : Nat} (h : SpoI W g g1 n cap1 w) (hgg : g < g1) (hc : Cod w' g) (hg : w.grownBy w' (some g)) : SpoI W g g1 n cap1 w' := by
  obtain ⟨_, h2, ys, hy, ho⟩ := h
  exact ⟨hc, grownBy_trans h2 hg, ys, hy, World.ownsRow.kept ho hg (.inr (by simp [Value.ownBlock]; omega))⟩
theorem SpoI.store {W w : World} {g g1 n cap1 : Nat} (h : SpoI W g g1 n cap1 w) (hgg : g < g1) (k : Nat) (v : Int) (hv : IntKind.u8.min ≤ v ∧ v ≤ IntKind.u8.max) : SpoI W g g1 n cap1 (w.setCell ⟨g1, k, none⟩ (.int .u8 v)) := by
  obtain ⟨h1, h2, ys, hy, ho⟩ := h
  have hv0 : 0 ≤ v := hv.1
  have hv1 : v ≤ 255 := hv.2
  obtain ⟨y, rfl⟩ : ∃ y : Nat, v = y := ⟨v.toNat, by omega⟩
  obtain ⟨hs, hg⟩ := World.ownsRow.stored ho k (.int .u8 (y : Int))
  refine ⟨h1.setCell hgg _, grownBy_own h2 hg (fun q e => ?_), ys.set k y, ?_, by rw [byts_set]; exact hs⟩
  · have e : some g1 = some q := e
    injection e with e
    have := (ho.lt q (by show some g1 = some q; rw [e])).1
    exact this
  · intro z hz
    rcases List.mem_or_eq_of_mem_set hz with hz | rfl
    · exact hy z hz
    · omega
theorem one_bs (w : World) (y : Nat) : Bs (w.alloc (.cells #[.int .u8 ((y : Nat) : Int)] 5)) (some ⟨w.heap.size, 0, none⟩) 1 1 [y] := by
  refine ⟨rfl, Nat.le_refl _, by simp [maxLen], (fun e => by cases e), fun _ => ⟨_, _, rfl, by simp, fun j u hj => ?_⟩⟩
  rw [cell_of_row _ _ _ _ _ _ (heap_alloc_new w _), Nat.zero_add]
  simpa using hj
set_option maxRecDepth 100000 in
set_option maxHeartbeats 4000000 in
theorem Spoilt_any (g : Nat) (a : Option Addr) (n cap : Nat) (zs : List Nat) (hm : n ≤ 70000) (hby : Byt zs) (w : World) (hc : Cod w g) (h : Bs w a n cap zs) (hdis : ∀ x, a = some x → x.block ≠ g) : Calls Tryd.prog 15 #[.pointer (some ⟨g, 0, none⟩), .slice a n cap] w (SpoPost g n w) := by
  obtain ⟨i0, hi0, hz0, hz1, hz2⟩ := info_parts Tryd.infoByte
  have HB := Lib.hid hby
  have HC := Lib.hid hc
  have H := Lib.hid h
  have hz := h.1
  have hcm := h.2.2.1
  have hnc := h.2.1
  have hgw := hc.lt
  clear hby hc h
  by_cases hn : n = 0
  · subst hn
    go_enter Tryd.func15, Tryd.ntmps15
    go_wp2_with (at_builtin; refine wpList_append_src rfl _ _ _ rfl w.heap.size 5 i0 _ 1 1 Tryd.underlying22 hi0 hz0 hz1 hz2 rfl (by omega) _ _ _ rfl (World.ownsRow_nil _ _ _ _) a 0 cap (byts zs) rfl H.out.2.1 H.out.2.2.2.1 (by simp [H.out.1]) H.out.2.2.2.2 (byts_one _) (by unfold maxLen; omega) (by omega) (Nat.le_refl _) ?_; intro v1 w1 hown1 hgr1; have hb1 := (Below.refl w.heap.size w).grown hgr1 (Nat.le_refl _) (fun k e => by cases e); rw [Nat.zero_add, List.nil_append] at hown1; clear hgr1; obtain ⟨a1, cap1, rfl, hbs1⟩ := Bs.of_own hown1)
    have hc1 := HC.out.below hb1 hgw
    refine (Next_small g 256 (by omega) _ hc1).mono ?_
    rintro e w2 ⟨x, rfl, x0, x1, hc2, hg2⟩
    rw [show max (256 : Int) 1 = 256 from rfl] at x1
    obtain ⟨y, rfl⟩ : ∃ y : Nat, x = y := ⟨x.toNat, by omega⟩
    have hyl : y < 256 := by omega
    have hg3 := grown_alloc (grownBy_trans (below_grownS hb1 g) hg2) (.cells #[.int .u8 (y : Int)] 5)
    have hc3 := hc2.alloc (.cells #[.int .u8 (y : Int)] 5)
    clear hg2 hc2
    go_wp2_with fail
    go_ret
    exact ⟨_, _, _, [y], rfl, one_bs _ _, Byt.one hyl, by omega, hc3, hg3⟩
  · have hpos : 0 < n := by omega
    have e0 : ((n : Int) == 0) = false := by simp; omega
    clear hn
    go_enter Tryd.func15, Tryd.ntmps15
    go_wp2_with (at_builtin; refine wpList_append_src rfl _ _ _ rfl w.heap.size 5 i0 _ 1 1 Tryd.underlying22 hi0 hz0 hz1 hz2 rfl (by omega) _ _ _ rfl (World.ownsRow_nil _ _ _ _) a n cap (byts zs) rfl H.out.2.1 H.out.2.2.2.1 (by simp [H.out.1]) H.out.2.2.2.2 (byts_one _) (by unfold maxLen; omega) (by omega) (Nat.le_refl _) ?_; intro v1 w1 hown1 hgr1; have hb1 := (Below.refl w.heap.size w).grown hgr1 (Nat.le_refl _) (fun k e => by cases e); rw [Nat.zero_add, List.nil_append] at hown1; clear hgr1; obtain ⟨g1, cap1, rfl, hg1, hg2, hg3, hg4, hg5, hg6⟩ := own_block hown1 (byts_ne _ 0 (by omega)))
    have hc1 := HC.out.below hb1 hgw
    refine (Next_any g n (by omega) _ hc1).mono ?_
    rintro e w2 ⟨x, rfl, x0, x1, hc2, hgr2⟩
    rw [show max (n : Int) 1 = n by omega] at x1
    obtain ⟨k, rfl⟩ : ∃ y : Nat, x = y := ⟨x.toNat, by omega⟩
    have hkn : k < n := by omega
    clear x0 x1
    go_wp2_with fail
    refine (Next_small g 4 (by omega) _ hc2).mono ?_
    rintro e w3 ⟨x, rfl, x0, x1, hc3, hgr3⟩
    rw [show max (4 : Int) 1 = 4 from rfl] at x1
    obtain ⟨d, rfl⟩ : ∃ y : Nat, x = y := ⟨x.toNat, by omega⟩
    have hown3 := World.ownsRow.kept (World.ownsRow.kept hown1 hgr2 (.inr (by simp [Value.ownBlock]; omega))) hgr3 (.inr (by simp [Value.ownBlock]; omega))
    have hgr13 := grownBy_trans (below_grownS hb1 g) (grownBy_trans hgr2 hgr3)
    have HO := Lib.hid hown3
    have hgg : g < g1 := by omega
    have hg13 : g1 < w3.heap.size := by have := hgr2.size; have := hgr3.size; omega
    have HG := Lib.hid hgr13
    have HC3 := Lib.hid hc3
    clear hgr13 hgr2 hgr3 hown3 hown1 hg5 hg6 hc3 hc2 hc1
    obtain ⟨b, off, rfl, hbl, hcell⟩ := H.out.2.2.2.2.byt 0 (by omega)
    by_cases hd0 : d = 0
    · subst hd0
      have hsrc := Bs.cut (lo := k + 1) (m := n - (k + 1)) H.out (by omega)
      have hs3 := hsrc.grown HG.out (by intro e; exact hdis _ rfl e)
      have HS := Lib.hid hs3
      have hpre := own_take HO.out (show k ≤ n by omega)
      have hsz := HG.out.size
      clear hsrc hs3 hcell
      go_wp2_with fail
      have s1 : (0 : Int) ≤ (k : Int) := by omega
      have s2 : (k : Int) ≤ (cap1 : Int) := by omega
      have s3 : (0 : Int) ≤ (k : Int) + 1 := by omega
      have s4 : (k : Int) + 1 ≤ (n : Int) := by omega
      have s7 : IntKind.i64.wrap ((k : Int) + 1) = (k : Int) + 1 := IntWalk.i64_in _ (by omega)
      have s8 : ((k : Int) + 1).toNat = k + 1 := by omega
      obtain ⟨ad, had, hadc⟩ : ∃ ad : Addr, (if cap = k + 1 then some (⟨b, off, none⟩ : Addr) else some ⟨b, off + (k + 1), none⟩) = some ad ∧ Cells w3.drew (some ad) (byts ((zs.drop (k + 1)).take (n - (k + 1)))) := by
        by_cases hce : cap = k + 1
        · refine ⟨_, if_pos hce, ?_⟩
          have : (zs.drop (k + 1)).take (n - (k + 1)) = [] := List.eq_nil_of_length_eq_zero (by simp; omega)
          rw [this]; exact Cells.nil _ _
        · exact ⟨_, if_neg hce, HS.out.2.2.2.2⟩
      have HAC := Lib.hid hadc
      have hlen : ((zs.drop (k + 1)).take (n - (k + 1))).length = n - (k + 1) := by simp; omega
      clear hadc
      go_still_tail 7, (by kernel_rfl)
      change wpList _ _ _ _ _ w3.drew
      go_wp2_with (at_builtin; refine wpList_append_src rfl _ _ _ rfl w.heap.size 5 i0 _ 1 1 Tryd.underlying22 hi0 hz0 hz1 hz2 rfl (by omega) _ _ _ rfl hpre.drew (some ad) (n - (k + 1)) (cap - (k + 1)) (byts ((zs.drop (k + 1)).take (n - (k + 1)))) rfl (by omega) (fun e => by cases e) (by rw [List.length_map, hlen, Nat.mul_one]) HAC.out (byts_one _) (by unfold maxLen; omega) (by omega) (by show _ ≤ w3.heap.size; omega) ?_; intro v5 w5 hown5 hgr5; rw [← byts_append] at hown5; obtain ⟨a5, cap5, rfl, hbs5⟩ := Bs.of_own hown5)
      go_ret
      refine ⟨_, _, _, _, rfl, hbs5, Byt.append (HB.out.take k) ((HB.out.drop (k + 1)).take _), by omega, ?_, ?_⟩
      · exact Cod.grown HC3.out.drew hgr5 (fun q e => by have e : some g1 = some q := e; injection e with e; omega)
      · exact grownBy_own HG.out (⟨hgr5.os, hgr5.tape, hgr5.output, hgr5.size, hgr5.block⟩ : w3.grownBy w5 _) (fun q e => by have e : some g1 = some q := e; injection e with e; omega)
    · have f0 : ((d : Int) == 0) = false := by simp; omega
      by_cases hd1 : d = 1
      · subst hd1
        clear hcell
        go_wp2_with fail
        refine (Next_small g 256 (by omega) _ HC3.out).mono ?_
        rintro e w4 ⟨x, rfl, x0, x1, hc4, hgr4⟩
        rw [show max (256 : Int) 1 = 256 from rfl] at x1
        obtain ⟨y, rfl⟩ : ∃ y : Nat, x = y := ⟨x.toNat, by omega⟩
        have hyl : y < 256 := by omega
        have hown4 := World.ownsRow.kept HO.out hgr4 (.inr (by simp [Value.ownBlock]; omega))
        have hg4' := grownBy_trans HG.out hgr4
        have hsz4 := hg4'.size
        go_wp2_with (at_builtin; refine wpList_append_own _ rfl _ _ _ rfl w.heap.size 5 i0 _ 1 1 Tryd.underlying22 hi0 hz0 hz1 hz2 rfl (by omega) _ _ _ rfl (hown4.alloc _) ⟨w4.heap.size, 0, none⟩ 1 1 [.int .u8 (y : Int)] rfl rfl (World.news_of_block (cs := #[.int .u8 (y : Int)]) (t := 5) (fr := (0, 0)) (heap_alloc_new w4 _)) (by simp [Value.oneCell']) (by unfold maxLen; omega) (by omega) (by simp; omega) ?_; intro v5 w5 hown5 hgr5 _)
        have hc5 := Cod.grown (hc4.alloc (.cells #[.int .u8 (y : Int)] 5)) hgr5 (fun q e => by have e : some g1 = some q := e; injection e with e; omega)
        have hg5 := grownBy_own (grown_alloc hg4' (.cells #[.int .u8 (y : Int)] 5)) hgr5 (fun q e => by have e : some g1 = some q := e; injection e with e; omega)
        rw [show byts zs ++ [Value.int .u8 (y : Int)] = byts (zs ++ [y]) by simp] at hown5
        obtain ⟨a5, cap5, rfl, hbs5⟩ := Bs.of_own hown5
        go_ret
        exact ⟨_, _, _, _, rfl, hbs5, Byt.append HB.out (Byt.one hyl), by omega, hc5, hg5⟩
      · have f1 : ((d : Int) == 1) = false := by simp; omega
        clear hd0 hd1
        have hspo : SpoI w g g1 n cap1 w3.drew := ⟨HC3.out.drew, grown_drew HG.out, zs, HB.out, HO.out.drew⟩
        have hxd := hspo.cell hkn
        obtain ⟨x, hx⟩ : ∃ x : Nat, rd w3.drew g1 k = x := ⟨_, rfl⟩
        rw [hx] at hxd
        have hfd := hspo.frozen k
        have hkc : (k : Int) < (n : Int) := by omega
        clear hcell hx
        go_wp2_with fail
        go_region_with ((go_at_call 11; refine (Next_small g 255 (by omega) w3.drew hspo.cod).mono ?_; rintro e wc ⟨z, rfl, z0, z1, hcodc, hgc⟩; have hspoc := SpoI.call hspo hgg hcodc hgc; have fx := hspoc.frozen k; have cx := (hgc.cell_far ⟨g1, k, none⟩ (show g1 < w3.heap.size from hg13) (by simp; omega)).trans hxd))
        all_goals
          have hst := SpoI.store hspoc hgg k _ (bits_within .xor .u8 (x : Int) (IntKind.u8.wrap (IntKind.i64.wrap (1 + z))))
          clear hspoc hspo hxd hfd fx cx hgc hcodc
          generalize (wc.setCell _ _) = w9 at *
          obtain ⟨hc9, hg9, ys, hy9, ho9⟩ := hst
          obtain ⟨a9, cap9, he9, hbs9⟩ := Bs.of_own ho9
          injection he9 with he9 _ he8
          subst he9 he8
          have hly := ho9.1
          go_wp2_with fail
          go_ret
          exact ⟨_, _, _, ys, rfl, hbs9, hy9, by omega, hc9, hg9⟩
end Go.Proofs.YthcagbplolcbpaaDoor
