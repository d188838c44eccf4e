/-
  REGIONS THAT DRAW THEIR ORDER, EACH OPERATION SHOWN ONCE: every operation ahead of a forced tail leaves a value of which something is known that lasts; the orders are not walked. No program in sight.
-/
import Derived.StillTail
import Derived.OwnWalk
namespace Go.Proofs.YtkgdogccnkjcgaaDoor
open Go

section
variable {P : Program} {ops : Array Oper}

/-- what an operation leaves -/
def Gives (P : Program) (K : Value → World → Prop) : Result Next → Prop
  | .ok (.value v) w' => K v w'
  | .ok .skip w' => K undef w'
  | .ok (.enter f args) w' => Calls P f args w' fun e w'' => ∃ v, e = .returned v ∧ K v w''
  | _ => False
structure oGives (P : Program) (o : Oper) (b : Act) (w : World) (K : Value → World → Prop) : Prop where
  out : Gives P K ((execOp b.eval o).run P w)
theorem gives_value {K : Value → World → Prop} {v : Value} {w : World} (h : K v w) : Gives P K (.ok (.value v) w) := h
theorem gives_skip {K : Value → World → Prop} {w : World} (h : K undef w) : Gives P K (.ok .skip w) := h
theorem gives_enter {K : Value → World → Prop} {f : FuncId} {args : Array Value} {w : World} (h : Calls P f args w fun e w'' => ∃ v, e = .returned v ∧ K v w'') : Gives P K (.ok (.enter f args) w) := h
theorem wp_of_gives {o : Oper} {a b : Act} {w : World} {K : Value → World → Prop} {Q : Exit → Act → World → Prop} {K' : Act → World → Prop} (he : execOp a.eval o = execOp b.eval o) (h : oGives P o b w K)
    (hK : ∀ v w', K v w' → K' (a.put o.dst v) w') : o.wp P a w K' Q := by
  replace h := h.out
  unfold Oper.wp
  rw [he]
  generalize (execOp b.eval o).run P w = r at *
  cases r with
  | ok n w' =>
    cases n <;> simp only [Gives] at h <;> simp only [Oper.upon]
    case value v => exact hK _ _ h
    case skip => exact hK _ _ h
    case enter f args => exact h.mono fun e w'' ⟨v, he, hk⟩ => by subst he; exact hK _ _ hk
  | halt x w' => simp only [Gives] at h

/-- where operation j puts its value -/
def dstOf (ops : Array Oper) (j : Nat) : Option Tmp := (ops[j]?).bind (·.dst)
/-- the values put one after the other -/
def putT (t : Array Value) (d : Option Tmp) (v : Value) : Array Value := match d with
  | some d => t.setIfInBounds d v
  | none => t
def fillT (ops : Array Oper) (t0 : Array Value) (vs : Nat → Value) : Nat → Array Value
  | 0 => t0
  | i + 1 => putT (fillT ops t0 vs i) (dstOf ops i) (vs i)
def fillN (ops : Array Oper) (a0 : Act) (vs : Nat → Value) (i : Nat) : Act := { tmps := fillT ops a0.tmps vs i, defers := a0.defers }
theorem fillN_zero (a0 : Act) (vs : Nat → Value) : fillN ops a0 vs 0 = a0 := rfl
theorem fillN_succ (a0 : Act) (vs : Nat → Value) (i : Nat) : fillN ops a0 vs (i + 1) = (fillN ops a0 vs i).put (dstOf ops i) (vs i) := by
  show ({ tmps := putT (fillT ops a0.tmps vs i) (dstOf ops i) (vs i), defers := a0.defers } : Act) = _
  unfold fillN putT Act.put
  cases dstOf ops i <;> rfl
theorem put_size (a : Act) (d : Option Tmp) (v : Value) : (a.put d v).tmps.size = a.tmps.size := by cases d <;> simp [Act.put]
theorem put_defs (a : Act) (d : Option Tmp) (v : Value) : (a.put d v).defers = a.defers := by cases d <;> rfl
theorem put_same (a : Act) {d : Option Tmp} {t : Tmp} (h : d = some t) (v : Value) (ht : t < a.tmps.size) : (a.put d v).tmps[t]? = some v := by subst h; simp [Act.put, ht]
theorem put_other (a : Act) {d : Option Tmp} {t : Tmp} (h : d ≠ some t) (v : Value) : (a.put d v).tmps[t]? = a.tmps[t]? := by
  cases d with
  | none => rfl
  | some e => have : e ≠ t := fun he => h (by rw [he]); simp [Act.put, Array.getElem?_setIfInBounds_ne this]
theorem fillN_size (a0 : Act) (vs : Nat → Value) : ∀ i, (fillN ops a0 vs i).tmps.size = a0.tmps.size
  | 0 => rfl
  | i + 1 => by rw [fillN_succ]; exact (put_size _ _ _).trans (fillN_size a0 vs i)
theorem fillN_defs (a0 : Act) (vs : Nat → Value) : ∀ i, (fillN ops a0 vs i).defers = a0.defers
  | 0 => rfl
  | _ + 1 => rfl
theorem fillN_out (a0 : Act) (vs : Nat → Value) {t : Tmp} : ∀ i, (∀ j, j < i → dstOf ops j ≠ some t) → (fillN ops a0 vs i).tmps[t]? = a0.tmps[t]?
  | 0, _ => rfl
  | i + 1, h => by rw [fillN_succ]; exact (put_other _ (h i (by omega)) _).trans (fillN_out a0 vs i (fun j hj => h j (by omega)))
theorem fillN_in (a0 : Act) (vs : Nat → Value) {t : Tmp} {j : Nat} (ht : t < a0.tmps.size) : ∀ i, j < i → dstOf ops j = some t → (∀ k, k < i → dstOf ops k = some t → k = j) → (fillN ops a0 vs i).tmps[t]? = some (vs j)
  | 0, h, _, _ => by omega
  | i + 1, h, hd, hu => by
    rw [fillN_succ]
    by_cases hji : j = i
    · subst hji; exact put_same _ hd _ (by rw [fillN_size]; exact ht)
    · exact (put_other _ (fun e => hji (hu i (by omega) e).symm) _).trans (fillN_in a0 vs ht i (by omega) hd (fun k hk => hu k (by omega)))

/-- the check: destinations differ; who reads another's destination waits for it, or is waited for -/
def apartB (ops : Array Oper) (n : Nat) : Bool :=
  (List.range n).all fun i => (List.range n).all fun j => decide (i = j) ||
    ((dstOf ops i == none || dstOf ops i != dstOf ops j) &&
     (match dstOf ops j, ops[i]? with
      | some t, some o => !(o.looksAt ops).contains t || (decide (j < i) && Region.waitsFor .any ops i j) || (decide (i < j) && Region.waitsFor .any ops j i)
      | _, _ => true))
def finB (ops : Array Oper) (n : Nat) : Bool := Region.seqB .any ops (ops.size - n) n ((List.range ops.size).map fun j => decide (j < n)).toArray
def backB (ops : Array Oper) (n : Nat) : Bool := (List.range n).all fun i => match ops[i]? with
  | some o => o.after.all fun e => !Region.binds .any e || decide (e.on < i)
  | none => false
def stabB (ops : Array Oper) (n : Nat) : Bool := Region.noSelect ops && decide (n < ops.size) && Region.sinkB .any ops n && Region.chainB .any ops n && apartB ops n && finB ops n && backB ops n

theorem apart_dst {n i j : Nat} {t : Tmp} (h : apartB ops n = true) (hi : i < n) (hj : j < n) (e1 : dstOf ops i = some t) (e2 : dstOf ops j = some t) : i = j := by
  have h1 := List.all_eq_true.1 (List.all_eq_true.1 h i (List.mem_range.2 hi)) j (List.mem_range.2 hj)
  simp only [Bool.or_eq_true, Bool.and_eq_true, decide_eq_true_eq] at h1
  rcases h1 with h1 | ⟨h1, _⟩
  · exact h1
  · rw [e1, e2] at h1; simp at h1
theorem apart_look {n i j : Nat} {t : Tmp} {o : Oper} (h : apartB ops n = true) (hi : i < n) (hj : j < n) (hne : i ≠ j) (ho : ops[i]? = some o) (e2 : dstOf ops j = some t) (hl : t ∈ o.looksAt ops) :
    (j < i ∧ Region.waitsFor .any ops i j = true) ∨ (i < j ∧ Region.waitsFor .any ops j i = true) := by
  have h1 := List.all_eq_true.1 (List.all_eq_true.1 h i (List.mem_range.2 hi)) j (List.mem_range.2 hj)
  simp only [Bool.or_eq_true, Bool.and_eq_true, decide_eq_true_eq] at h1
  rcases h1 with h1 | ⟨_, h1⟩
  · exact absurd h1 hne
  · rw [e2, ho] at h1
    simp only [Bool.or_eq_true, Bool.and_eq_true, decide_eq_true_eq, Bool.not_eq_true'] at h1
    rcases h1 with (h1 | h1) | h1
    · simp at h1; exact absurd hl h1
    · exact .inl h1
    · exact .inr h1

theorem countP_less {p q : Nat → Bool} (h : ∀ x, q x = true → p x = true) {i : Nat} (hp : p i = true) (hq : q i = false) : ∀ l : List Nat, i ∈ l → l.countP q + 1 ≤ l.countP p
  | [], hi => by cases hi
  | x :: l, hi => by
    have hm : l.countP q ≤ l.countP p := List.countP_mono_left (fun x _ hx => h x hx)
    rw [List.countP_cons, List.countP_cons]
    by_cases hx : x = i
    · subst hx; rw [hp, hq]; simp; exact hm
    · have hi' : i ∈ l := by rcases List.mem_cons.1 hi with e | e; exact absurd e.symm hx; exact e
      have := countP_less h hp hq l hi'
      by_cases hqx : q x = true
      · rw [hqx, h x hqx]; simp; omega
      · rw [Bool.not_eq_true] at hqx
        rw [hqx, if_neg (by simp)]
        omega

theorem wpAny_more {Q : Exit → Act → World → Prop} : ∀ (f : Nat) (listed : Array Bool) (a : Act) (w : World), wpAny P .any ops Q f listed a w → wpAny P .any ops Q (f + 1) listed a w
  | 0, listed, a, w, h => ⟨fun _ => h.2, fun i hi => by rw [h.1] at hi; cases hi⟩
  | f + 1, listed, a, w, h => ⟨h.1, fun i hi => wpOp_mono (fun a' w' h' => wpAny_more f _ a' w' h') (h.2 i hi)⟩
theorem wpAny_le {Q : Exit → Act → World → Prop} {f g : Nat} {listed : Array Bool} {a : Act} {w : World} (hfg : f ≤ g) (h : wpAny P .any ops Q f listed a w) : wpAny P .any ops Q g listed a w := by
  induction g with
  | zero => have : f = 0 := by omega
            subst this; exact h
  | succ g ih =>
    by_cases e : f = g + 1
    · subst e; exact h
    · exact wpAny_more _ _ _ _ (ih (by omega))

/-- what is asked of operation i -/
def Ob (P : Program) (ops : Array Oper) (S : World → World → Prop) (R : Nat → Value → World → Prop) (w0 : World) (a0 : Act) (vs : Nat → Value) (i : Nat) (o : Oper) : Prop :=
  ∀ w, S w0 w → (∀ j, Region.waitsFor .any ops i j = true → R j (vs j) w) →
    if Region.wanted o (yielded ops (fillN ops a0 vs i).tmps) = true then oGives P o (fillN ops a0 vs i) w (fun v w' => S w w' ∧ R i v w') else R i undef w

theorem ob_plain {S : World → World → Prop} {R : Nat → Value → World → Prop} {w0 : World} {a0 : Act} {vs : Nat → Value} {i : Nat} {o : Oper} (hg : o.guard = none)
    (h : ∀ w, S w0 w → (∀ j, Region.waitsFor .any ops i j = true → R j (vs j) w) → oGives P o (fillN ops a0 vs i) w (fun v w' => S w w' ∧ R i v w')) : Ob P ops S R w0 a0 vs i o := by
  intro w hS hd
  rw [if_pos (by unfold Region.wanted; rw [hg])]
  exact h w hS hd
/-- how far the order has come -/
structure Come (ops : Array Oper) (n : Nat) (S : World → World → Prop) (R : Nat → Value → World → Prop) (w0 : World) (a0 : Act) (vs : Nat → Value) (listed : Array Bool) (a : Act) (w : World) : Prop where
  inv : HeadInv .any ops n listed
  step : S w0 w
  defs : a.defers = a0.defers
  size : a.tmps.size = a0.tmps.size
  tin : ∀ j t, j < n → listed.getD j false = true → dstOf ops j = some t → t < a0.tmps.size → a.tmps[t]? = some (vs j)
  tout : ∀ t, (∀ j, j < n → listed.getD j false = true → dstOf ops j ≠ some t) → a.tmps[t]? = a0.tmps[t]?
  rel : ∀ j, j < n → listed.getD j false = true → R j (vs j) w

theorem waits_of {i j : Nat} {o : Oper} {e : _} (ho : ops[i]? = some o) (he : e ∈ o.after) (hb : Region.binds .any e = true) (hj : e.on = j) : Region.waitsFor .any ops i j = true := by
  unfold Region.waitsFor
  rw [ho]
  exact Array.any_eq_true'.2 ⟨e, he, by simp [hb, hj]⟩

theorem stab_go {n : Nat} {S : World → World → Prop} {R : Nat → Value → World → Prop} {w0 : World} {a0 : Act} {Q : Exit → Act → World → Prop}
    (hsel : Region.noSelect ops = true) (hn : n ≤ ops.size) (hap : apartB ops n = true) (hback : backB ops n = true)
    (htw : ∀ (listed : Array Bool) (i0 : Nat), HeadInv .any ops n listed → i0 < n → listed.getD i0 true = false → ∀ i ∈ Region.ready .any ops listed, i < n)
    (hrefl : ∀ w, S w w) (htrans : ∀ x y z, S x y → S y z → S x z) (hst : ∀ j v w w', S w w' → R j v w → R j v w')
    (hob : ∀ vs i o, i < n → ops[i]? = some o → Ob P ops S R w0 a0 vs i o)
    (hT : ∀ (listed : Array Bool) vs w, HeadInv .any ops n listed → (∀ j, j < n → listed.getD j false = true) → S w0 w → (∀ j, j < n → R j (vs j) w) → wpAny P .any ops Q (ops.size - n) listed (fillN ops a0 vs n) w) :
    ∀ (f : Nat) (listed : Array Bool) (a : Act) (w : World) (vs : Nat → Value), Come ops n S R w0 a0 vs listed a w → (List.range n).countP (fun j => !listed.getD j false) ≤ f → wpAny P .any ops Q (f + (ops.size - n)) listed a w := by
  intro f
  induction f with
  | zero =>
    intro listed a w vs C hcnt
    have hall : ∀ j, j < n → listed.getD j false = true := by
      intro j hj
      have h0 : (List.range n).countP (fun j => !listed.getD j false) = 0 := by omega
      have := List.countP_eq_zero.1 h0 j (List.mem_range.2 hj)
      simpa using this
    exact done listed a w vs C hall
  | succ f ih =>
    intro listed a w vs C hcnt
    by_cases hall : ∀ j, j < n → listed.getD j false = true
    · exact wpAny_le (by omega) (done listed a w vs C hall)
    · rw [show f + 1 + (ops.size - n) = (f + (ops.size - n)) + 1 by omega]
      obtain ⟨i0, hi0⟩ := Classical.not_forall.1 hall
      obtain ⟨hi0n, hi0l⟩ := Classical.not_imp.1 hi0
      rw [Bool.not_eq_true] at hi0l
      have hsz : listed.size = ops.size := C.inv.size
      have hi0t : listed.getD i0 true = false := getD_in (by rw [hsz]; omega) hi0l
      refine ⟨fun hnil => ?_, fun i hi => ?_⟩
      · -- the first that is not listed is ready
        exfalso
        have key : ∀ d i, i < n → n - i = d → True := fun _ _ _ _ => trivial
        have : ∀ m, m < n → listed.getD m false = false → False := by
          intro m
          induction m using Nat.strongRecOn with
          | _ m ihm =>
            intro hm hml
            have hmo : m < ops.size := by omega
            have hready : m ∈ Region.ready .any ops listed := by
              rw [mem_ready]
              refine ⟨getD_in (by rw [hsz]; omega) hml, ops[m], Array.getElem?_eq_getElem hmo, fun e he hb => ?_⟩
              have h1 := List.all_eq_true.1 hback m (List.mem_range.2 hm)
              rw [Array.getElem?_eq_getElem hmo] at h1
              have h2 := Array.all_eq_true_iff_forall_mem.1 h1 e he
              rw [hb] at h2
              have h3 : e.on < m := by simpa using h2
              by_cases hl : listed.getD e.on false = true
              · exact hl
              · rw [Bool.not_eq_true] at hl
                exact absurd (ihm e.on h3 (by omega) hl) id
            rw [hnil] at hready
            cases hready
        exact this i0 hi0n hi0l
      · have hin : i < n := htw listed i0 C.inv hi0n hi0t i hi
        obtain ⟨hun, o, ho, hdeps⟩ := mem_ready.1 hi
        have hunf : listed.getD i false = false := getD_both hun
        -- the act and the lexical act agree on what the operation looks at
        have agree : ∀ t, t ∈ o.looksAt ops → a.tmps[t]? = (fillN ops a0 vs i).tmps[t]? := by
          intro t ht
          by_cases hex : ∃ j, j < n ∧ dstOf ops j = some t
          · obtain ⟨j, hj, hd⟩ := hex
            have a0side : listed.getD j false = false → a.tmps[t]? = a0.tmps[t]? := fun hjl =>
              C.tout t (fun k hk hkl e => by rw [apart_dst hap hk hj e hd, hjl] at hkl; cases hkl)
            have b0side : i ≤ j → (fillN ops a0 vs i).tmps[t]? = a0.tmps[t]? := fun hij =>
              fillN_out a0 vs i (fun k hk e => by have := apart_dst hap (show k < n by omega) hj e hd; omega)
            by_cases hij : i = j
            · subst hij; rw [a0side hunf, b0side (Nat.le_refl _)]
            · rcases apart_look hap hin hj hij ho hd ht with ⟨h1, h2⟩ | ⟨h1, h2⟩
              · obtain ⟨o', ho', e, he, hb, hon⟩ := Region.waitsFor_spec h2
                have : o' = o := Option.some.inj (ho'.symm.trans ho)
                subst this
                have hjl := hdeps e he hb
                rw [hon] at hjl
                by_cases hts : t < a0.tmps.size
                · rw [C.tin j t hj hjl hd hts, fillN_in a0 vs hts i h1 hd (fun k hk e => apart_dst hap (show k < n by omega) hj e hd)]
                · have s1 := C.size
                  have s2 := fillN_size (ops := ops) a0 vs i
                  rw [Array.getElem?_eq_none (Nat.le_trans (Nat.le_of_eq s1) (Nat.le_of_not_lt hts)), Array.getElem?_eq_none (Nat.le_trans (Nat.le_of_eq s2) (Nat.le_of_not_lt hts))]
              · obtain ⟨o', ho', e, he, hb, hon⟩ := Region.waitsFor_spec h2
                have hjl : listed.getD j false = false := by
                  cases hl : listed.getD j false with
                  | false => rfl
                  | true => have := C.inv.closed j o' ho' hl e he hb; rw [hon, hunf] at this; cases this
                rw [a0side hjl, b0side (by omega)]
          · rw [C.tout t (fun k hk _ e => hex ⟨k, hk, e⟩), fillN_out a0 vs i (fun k hk e => hex ⟨k, by omega, e⟩)]
        have heval : execOp a.eval o = execOp (fillN ops a0 vs i).eval o := execOp_congr o (fun cs b => Region.noSelect_spec hsel i o cs b ho) fun x hx => by
          cases x with
          | tmp t =>
            have := agree t (List.mem_append_left _ (List.mem_filterMap.2 ⟨.tmp t, by simpa using hx, rfl⟩))
            simp only [Act.eval, Array.getD_eq_getD_getElem?, this]
          | _ => rfl
        have hwant : Region.wanted o (yielded ops a.tmps) = Region.wanted o (yielded ops (fillN ops a0 vs i).tmps) := by
          unfold Region.wanted
          cases hg : o.guard with
          | none => rfl
          | some gw =>
            obtain ⟨g, want⟩ := gw
            have hy : yielded ops a.tmps g = yielded ops (fillN ops a0 vs i).tmps g := by
              unfold yielded
              cases hd : (ops[g]?).bind (·.dst) with
              | none => rfl
              | some t =>
                have := agree t (by simp [Oper.looksAt, hg, hd])
                simp only [Option.bind_some, this]
            simp only [hy]
        have hO := hob vs i o hin ho w C.step (fun j hj => by
          obtain ⟨o', ho', e, he, hb, hon⟩ := Region.waitsFor_spec hj
          have : o' = o := Option.some.inj (ho'.symm.trans ho)
          subst this
          have hjl := hdeps e he hb
          rw [hon] at hjl
          have hji : j < i := by
            have h1 := List.all_eq_true.1 hback i (List.mem_range.2 hin)
            rw [ho] at h1
            have h2 := Array.all_eq_true_iff_forall_mem.1 h1 e he
            rw [hb, hon] at h2
            simpa using h2
          exact C.rel j (by omega) hjl)
        have hdst : dstOf ops i = o.dst := by unfold dstOf; rw [ho]; rfl
        have next : ∀ v w', S w w' → R i v w' → wpAny P .any ops Q (f + (ops.size - n)) (listed.setIfInBounds i true) (a.put o.dst v) w' := by
          intro v w' hSw hRi
          have hset : ∀ k, k ≠ i → (listed.setIfInBounds i true).getD k false = listed.getD k false := fun k hk => getD_set_ne false (Ne.symm hk)
          have hseti : (listed.setIfInBounds i true).getD i false = true := by
            have : i < listed.size := by rw [hsz]; omega
            simp [this]
          refine ih _ _ _ (fun k => if k = i then v else vs k) ⟨C.inv.set hi hin, htrans _ _ _ C.step hSw, (put_defs _ _ _).trans C.defs, (put_size _ _ _).trans C.size, ?_, ?_, ?_⟩ ?_
          · intro k t hk hkl hd hts
            by_cases hki : k = i
            · subst hki
              rw [if_pos rfl]
              exact put_same _ (hdst ▸ hd) _ (by rw [C.size]; exact hts)
            · rw [if_neg hki]
              rw [hset k hki] at hkl
              rw [put_other _ (fun e => hki (apart_dst hap hk hin hd (hdst.trans e))) _]
              exact C.tin k t hk hkl hd hts
          · intro t ht
            rw [put_other _ (fun e => ht i hin hseti (hdst.trans e)) _]
            refine C.tout t (fun k hk hkl => ?_)
            have hki : k ≠ i := fun e => by rw [e, hunf] at hkl; cases hkl
            exact ht k hk (by rw [hset k hki]; exact hkl)
          · intro k hk hkl
            by_cases hki : k = i
            · subst hki; rw [if_pos rfl]; exact hRi
            · rw [if_neg hki]
              rw [hset k hki] at hkl
              exact hst _ _ _ _ hSw (C.rel k hk hkl)
          · have := countP_less (p := fun j => !listed.getD j false) (q := fun j => !(listed.setIfInBounds i true).getD j false) (fun k hk => by
              by_cases hki : k = i
              · subst hki; rw [hseti] at hk; simp at hk
              · rw [hset k hki] at hk; exact hk) (i := i) (by simp only [hunf]; rfl) (by simp only [hseti]; rfl) (List.range n) (List.mem_range.2 hin)
            omega
        unfold wpOp
        simp only [ho]
        rw [hwant]
        split
        · rename_i hw
          rw [if_pos hw] at hO
          exact .inl (wp_of_gives heval hO (fun v w' ⟨h1, h2⟩ => next v w' h1 h2))
        · rename_i hw
          rw [if_neg hw] at hO
          exact next undef w (hrefl w) hO
where
  done (listed : Array Bool) (a : Act) (w : World) (vs : Nat → Value) (C : Come ops n S R w0 a0 vs listed a w) (hall : ∀ j, j < n → listed.getD j false = true) : wpAny P .any ops Q (0 + (ops.size - n)) listed a w := by
    have ha : a = fillN ops a0 vs n := by
      have h1 : a.tmps = (fillN ops a0 vs n).tmps := by
        apply Array.ext_getElem?
        intro t
        by_cases hex : ∃ j, j < n ∧ dstOf ops j = some t
        · obtain ⟨j, hj, hd⟩ := hex
          by_cases hts : t < a0.tmps.size
          · rw [C.tin j t hj (hall j hj) hd hts, fillN_in a0 vs hts n hj hd (fun k hk e => apart_dst hap hk hj e hd)]
          · rw [Array.getElem?_eq_none (by rw [C.size]; omega), Array.getElem?_eq_none (by rw [fillN_size]; omega)]
        · rw [C.tout t (fun k hk _ e => hex ⟨k, hk, e⟩), fillN_out a0 vs n (fun k hk e => hex ⟨k, hk, e⟩)]
      have h2 : a.defers = (fillN ops a0 vs n).defers := C.defs.trans (fillN_defs a0 vs n).symm
      cases a
      cases hb : fillN ops a0 vs n
      rw [hb] at h1 h2
      simp only at h1 h2
      rw [h1, h2]
    rw [ha, Nat.zero_add]
    exact hT listed vs w C.inv hall C.step (fun j hj => C.rel j hj (hall j hj))

theorem fin_listed {n : Nat} {listed : Array Bool} (inv : HeadInv .any ops n listed) (hall : ∀ j, j < n → listed.getD j false = true) : listed = ((List.range ops.size).map fun j => decide (j < n)).toArray := by
  have hsz : listed.size = ops.size := inv.size
  apply Array.ext_getElem?
  intro j
  by_cases hj : j < ops.size
  · have h2 : (((List.range ops.size).map fun j => decide (j < n)).toArray)[j]? = some (decide (j < n)) := by simp [hj]
    rw [h2]
    by_cases hjn : j < n
    · have h1 := hall j hjn
      rw [Array.getD_eq_getD_getElem?, Array.getElem?_eq_getElem (by rw [hsz]; exact hj)] at h1
      rw [Array.getElem?_eq_getElem (by rw [hsz]; exact hj)]
      simp at h1
      simp [h1, hjn]
    · have h1 := inv.tail j (by omega) hj
      rw [Array.getD_eq_getD_getElem?, Array.getElem?_eq_getElem (by rw [hsz]; exact hj)] at h1
      rw [Array.getElem?_eq_getElem (by rw [hsz]; exact hj)]
      simp at h1
      simp [h1, hjn]
  · rw [Array.getElem?_eq_none (by omega), Array.getElem?_eq_none (by simp; omega)]

/-- THE THEOREM, where a forced tail ends the region -/
theorem wp_region_stab {id : Nat} {Q : Exit → Act → World → Prop} {a : Act} {w : World} {l : List Oper} (n : Nat) (S : World → World → Prop) (R : Nat → Value → World → Prop)
    (hm : P.follows .mixedOrders = true) (hB : stabB l.toArray n = true) (hrefl : ∀ w, S w w) (htrans : ∀ x y z, S x y → S y z → S x z) (hst : ∀ j v w w', S w w' → R j v w → R j v w')
    (hob : ∀ vs i o, i < n → l[i]? = some o → Ob P l.toArray S R w.drew a vs i o)
    (hT : ∀ vs w', S w.drew w' → (∀ j, j < n → R j (vs j) w') → wpList P l.toArray Q (l.drop n) (fillN l.toArray a vs n) w') : (Code.region id l.toArray true).wp P Q a w := by
  simp only [stabB, Bool.and_eq_true, decide_eq_true_eq] at hB
  obtain ⟨⟨⟨⟨⟨⟨hsel, hn⟩, hs⟩, hc⟩, hap⟩, hfin⟩, hback⟩ := hB
  have inv0 : HeadInv .any l.toArray n (Array.replicate l.toArray.size false) :=
    ⟨by simp, fun j oj _ hl => (by rw [getD_replicate_false] at hl; cases hl), fun t _ ht => getD_in (by simpa using ht) (getD_replicate_false _ _)⟩
  have hlen : (l.drop n).length = l.toArray.size - n := by simp
  refine wp_region_any hm ?_
  have := stab_go (w0 := w.drew) (a0 := a) (Q := Q) hsel (Nat.le_of_lt hn) hap hback
    (fun listed i0 inv hi0 hl i hi => (Nat.lt_or_ge i n).elim (fun h => h) (fun h => absurd hi (tail_waits hs hc hn inv _ i0 rfl hi0 hl i h)))
    hrefl htrans hst (fun vs i o hi ho => hob vs i o hi (by simpa using ho))
    (fun listed vs w' inv hall h1 h2 => by
      have := wpAny_of_seq (md := .any) (Q' := Q) (l.drop n) n listed (fillN l.toArray a vs n) w' (fun j => by simp [List.getElem?_drop]) (by rw [hlen, fin_listed inv hall]; exact hfin) (hT vs w' h1 h2)
      rw [hlen] at this
      exact this)
    n (Array.replicate l.toArray.size false) a w.drew (fun _ => undef)
    ⟨inv0, hrefl _, rfl, rfl, fun j t _ hl => (by rw [getD_replicate_false] at hl; cases hl), fun t _ => rfl, fun j _ hl => (by rw [getD_replicate_false] at hl; cases hl)⟩
    (Nat.le_trans List.countP_le_length (by simp))
  rw [show n + (l.toArray.size - n) = l.toArray.size by omega] at this
  exact this
def stabAllB (ops : Array Oper) : Bool := Region.noSelect ops && apartB ops ops.size && backB ops ops.size
/-- THE THEOREM, for a whole region -/
theorem wp_region_stab_all {id : Nat} {Q : Exit → Act → World → Prop} {a : Act} {w : World} {l : List Oper} (n : Nat) (hlen : l.length = n) (S : World → World → Prop) (R : Nat → Value → World → Prop)
    (hm : P.follows .mixedOrders = true) (hB : stabAllB l.toArray = true) (hrefl : ∀ w, S w w) (htrans : ∀ x y z, S x y → S y z → S x z) (hst : ∀ j v w w', S w w' → R j v w → R j v w')
    (hob : ∀ vs i o, l[i]? = some o → Ob P l.toArray S R w.drew a vs i o)
    (hT : ∀ vs w', S w.drew w' → (∀ j, j < n → R j (vs j) w') → Q .normal (fillN l.toArray a vs n) w') : (Code.region id l.toArray true).wp P Q a w := by
  subst hlen
  simp only [stabAllB, Bool.and_eq_true] at hB
  obtain ⟨⟨hsel, hap⟩, hback⟩ := hB
  have inv0 : HeadInv .any l.toArray l.toArray.size (Array.replicate l.toArray.size false) :=
    ⟨by simp, fun j oj _ hl => (by rw [getD_replicate_false] at hl; cases hl), fun t h1 h2 => by omega⟩
  refine wp_region_any hm ?_
  have := stab_go (w0 := w.drew) (a0 := a) (Q := Q) hsel (Nat.le_refl _) hap hback
    (fun listed i0 inv hi0 hl i hi => by
      obtain ⟨_, o, ho, _⟩ := mem_ready.1 hi
      exact (Array.getElem?_eq_some_iff.1 ho).1)
    hrefl htrans hst (fun vs i o hi ho => hob vs i o (by simpa using ho))
    (fun listed vs w' inv hall h1 h2 => by
      rw [Nat.sub_self]
      have e : l.toArray.size = l.length := by simp
      refine ⟨?_, by rw [e] at h2 ⊢; exact hT vs w' h1 h2⟩
      rw [List.eq_nil_iff_forall_not_mem]
      intro i hi
      obtain ⟨hu, o, ho, _⟩ := mem_ready.1 hi
      have := hall i (Array.getElem?_eq_some_iff.1 ho).1
      rw [getD_both hu] at this
      cases this)
    l.toArray.size (Array.replicate l.toArray.size false) a w.drew (fun _ => undef)
    ⟨inv0, hrefl _, rfl, rfl, fun j t _ hl => (by rw [getD_replicate_false] at hl; cases hl), fun t _ => rfl, fun j _ hl => (by rw [getD_replicate_false] at hl; cases hl)⟩
    (Nat.le_trans List.countP_le_length (by simp))
  rw [Nat.sub_self, Nat.add_zero] at this
  exact this
end
end Go.Proofs.YtkgdogccnkjcgaaDoor
