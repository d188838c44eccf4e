/-
  A LAW on regions that draw their order: what is read may be read first, as long as the operation that writes it waits for the reading. (Filled in from a template of this repo.)
-/
import Derived.Test.YtpcdinelpfbpfaaDoorPsC
namespace Go.Proofs.YtpcdinelpfbpfaaDoor
set_option linter.unusedVariables false
set_option linter.unusedSectionVars false
open Go

section
variable {P:Program} {md:Region.Mode} {ops:Array Oper} {Q:Exit->Act->World->Prop} {S:World->Prop} {d:Nat}
def wpAnyK (P:Program) (md:Region.Mode) (ops:Array Oper) (Q:Exit->Act->World->Prop) (S:World->Prop) (d:Nat):Nat->Array Bool->Act->World->Prop
 | 0,listed,a,w=>Region.ready md ops listed=[]/\Q .normal a w
 | fuel+1,listed,a,w=>(Region.ready md ops listed=[]->Q .normal a w) /\
   ∀ i∈Region.ready md ops listed,wpOp P ops Q i (fun a' w'=>((listed.setIfInBounds i true).getD d false=false->S w')/\wpAnyK P md ops Q S d fuel (listed.setIfInBounds i true) a' w') a w
theorem wpAny_of_K (fuel:Nat) : ∀ (listed:Array Bool) (a:Act) (w:World),wpAnyK P md ops Q S d fuel listed a w->wpAny P md ops Q fuel listed a w:=by
 induction fuel with
 | zero=>intro listed a w h;exact h
 | succ fuel ih=>intro listed a w h;exact⟨h.1,fun i hi=>wpOp_mono (fun a' w' h'=>ih _ a' w' h'.2) (h.2 i hi)⟩
theorem wpAnyK_first {i:Nat} {oi od:Oper} {v:Value} {e0:Edge} (hi:ops[i]?=some oi) (hd:ops[d]?=some od) (he0:e0∈od.after) (hb0:Region.binds md e0=true) (hon:e0.on=i)
  (hsel : ∀ (j:Nat) (o:Oper) cs b,ops[j]?=some o->o.op≠.select cs b) (hQ : ∀ c a w,Q (.panic c) (a.put oi.dst v) w->Q (.panic c) a w) (fuel:Nat) :
  ∀ (listed:Array Bool) (a:Act) (w:World),
   (∀ j oj,ops[j]?=some oj->j≠i->listed.getD j true=false->(∀ e∈oj.after,Region.binds md e=true->e.on≠i)->oi.apart ops oj=true) ->
   i∈Region.ready md ops listed->listed.getD d false=false->YieldsIf P ops S oi v a->S w ->
   wpAnyK P md ops Q S d fuel (listed.setIfInBounds i true) (a.put oi.dst v) w->wpAnyK P md ops Q S d (fuel+1) listed a w:=by
 -- nothing that may come up now waits for i,as i has not come up
 have waits : ∀ (listed:Array Bool) (j:Nat) (oj:Oper),i∈Region.ready md ops listed->ops[j]?=some oj->(∀ e∈oj.after,Region.binds md e=true->listed.getD e.on false=true) -> ∀ e∈oj.after,Region.binds md e=true->e.on≠i:=fun listed j oj hr hoj hall e he hb heq=>by
  have h1:=hall e he hb
  have h0:=(mem_ready.1 hr).1
  rw [heq] at h1
  by_cases hlt:i<listed.size
  ·simp [hlt] at h0 h1
   rw [h0] at h1
   cases h1
  ·simp [Array.getElem?_eq_none (Nat.le_of_not_lt hlt)] at h1
 induction fuel with
 | zero =>
  intro listed a w _ hr hdl hy hS H
  refine⟨fun h=>(by rw [h] at hr;cases hr),fun j hj=>?_⟩
  by_cases hji:j=i
  ·rw [hji]
   exact hy.wpOp hi hS ⟨fun _=>hS,H⟩
  ·have:=ready_mono hj hji
   rw [H.1] at this
   cases this
 | succ fuel ih =>
  intro listed a w hfree hr hdl hy hS H
  refine⟨fun h=>(by rw [h] at hr;cases hr),fun j hj=>?_⟩
  by_cases hji:j=i
  ·rw [hji]
   exact hy.wpOp hi hS ⟨fun _=>hS,H⟩
  ·obtain⟨hjun,oj,hoj,hall⟩:=mem_ready.1 hj
   have hno:=waits listed j oj hr hoj hall
   have hjd:j≠d:=fun e=>by
    rw [e,hd] at hoj
    injection hoj with hoj
    rw [<- hoj] at hno
    exact hno e0 he0 hb0 hon
   have hdl2:(listed.setIfInBounds j true).getD d false=false:=by rw [getD_set_ne false hjd];exact hdl
   have h2:=wpOp_putIf hoj (hfree j oj hoj hji hjun hno) (fun cs b=>hsel i oi cs b hi) (fun cs b=>hsel j oj cs b hoj) hQ hy (H.2 j (ready_mono hj hji))
   refine wpOp_mono (fun a' w' h3=>?_) h2
   have hid:i≠d:=fun e=>by
    have h0:=(mem_ready.1 hr)
    obtain⟨_,o,ho,hall2⟩:=h0
    rw [e,hd] at ho
    injection ho with ho
    exact waits listed i od hr (by rw [e];exact hd) (by rw [ho];exact hall2) e0 he0 hb0 hon
   have hS':S w':=h3.2.1 (by rw [getD_set_ne false hjd,getD_set_ne false hid];exact hdl)
   refine⟨fun _=>hS',ih (listed.setIfInBounds j true) a' w' (fun k ok hk hki hun hn=>hfree k ok hk hki ?_ hn) (ready_mono hr (Ne.symm hji)) hdl2 h3.1 hS' ?_⟩
   ·by_cases hjk:j=k
    ·rw [<- hjk];exact hjun
    ·rw [getD_set_ne true hjk] at hun;exact hun
   ·rw [Array.setIfInBounds_comm _ _ hji]
    exact h3.2.2
theorem wpAnyK_take {i:Nat} {oi:Oper} {dd:Option Tmp} {v:Value} {fuel:Nat} {listed:Array Bool} {a:Act} {w:World} (hi:ops[i]?=some oi) (hdd:oi.dst=dd)
  (hw:(match ops[d]? with | some od=>od.after.any (fun e=>Region.binds md e&&e.on==i) | none=>false)=true) (hdl:listed.getD d false=false)
  (hs:Region.noSelect ops=true) (hf:Region.free md ops listed i=true) (hr:(Region.ready md ops listed).contains i=true)
  (hQ : ∀ c a w,Q (.panic c) (a.put dd v) w->Q (.panic c) a w) (hy:YieldsIf P ops S oi v a) (hS:S w)
  (h:wpAnyK P md ops Q S d fuel (listed.setIfInBounds i true) (a.put dd v) w):wpAnyK P md ops Q S d (fuel+1) listed a w:=by
 subst hdd
 cases hd:ops[d]? with
 | none=>rw [hd] at hw;cases hw
 | some od =>
  rw [hd] at hw
  dsimp only at hw
  rw [Array.any_eq_true'] at hw
  obtain⟨e0,he0,hb⟩:=hw
  simp only [Bool.and_eq_true,beq_iff_eq] at hb
  exact wpAnyK_first hi hd he0 hb.1 hb.2 (Region.noSelect_spec hs) hQ fuel listed a w (Region.free_spec hi hf) (by simpa using hr) hdl hy hS h
theorem wpAnyK_ready {rs:List Nat} {fuel:Nat} {listed:Array Bool} {a:Act} {w:World} (hr:Region.ready md ops listed=rs) (hne:rs≠[])
  (h : ∀ i∈rs,wpOp P ops Q i (fun a' w'=>((listed.setIfInBounds i true).getD d false=false->S w')/\wpAnyK P md ops Q S d fuel (listed.setIfInBounds i true) a' w') a w):wpAnyK P md ops Q S d (fuel+1) listed a w :=
 ⟨fun h0=>absurd (hr▸h0) hne,hr▸h⟩
theorem wpAnyK_one {i:Nat} {o:Oper} {fuel:Nat} {listed:Array Bool} {a:Act} {w:World} (hr:Region.ready md ops listed=[i]) (ho:ops[i]?=some o)
  (h : ∀ K':Act->World->Prop,Shut (∀ a w,((listed.setIfInBounds i true).getD d false=false->S w)->wpAnyK P md ops Q S d fuel (listed.setIfInBounds i true) a w->K' a w)->if Region.wanted o (yielded ops a.tmps)=true then Oper.wp P o a w K' Q else K' (a.put o.dst undef) w):wpAnyK P md ops Q S d (fuel+1) listed a w :=
 wpAnyK_ready hr (by simp) fun j hj=>by
  have e:j=i:=by simpa using hj
  rw [e]
  exact wpOp_step ho fun K' hK=>h K' fun a w hS hW=>hK a w ⟨hS,hW⟩
theorem wpAnyK_firstY {i:Nat} {oi:Oper} {v:Value} (hi:ops[i]?=some oi) (hid:i≠d)
  (hsel : ∀ (j:Nat) (o:Oper) cs b,ops[j]?=some o->o.op≠.select cs b) (hQ : ∀ c a w,Q (.panic c) (a.put oi.dst v) w->Q (.panic c) a w) (fuel:Nat) :
  ∀ (listed:Array Bool) (a:Act) (w:World),
   (∀ j oj,ops[j]?=some oj->j≠i->listed.getD j true=false->(∀ e∈oj.after,Region.binds md e=true->e.on≠i)->oi.apart ops oj=true) ->
   i∈Region.ready md ops listed->YieldsIf P ops (fun _=>True) oi v a->(listed.getD d false=false->S w) ->
   wpAnyK P md ops Q S d fuel (listed.setIfInBounds i true) (a.put oi.dst v) w->wpAnyK P md ops Q S d (fuel+1) listed a w:=by
 have waits : ∀ (listed:Array Bool) (oj:Oper),i∈Region.ready md ops listed->(∀ e∈oj.after,Region.binds md e=true->listed.getD e.on false=true) -> ∀ e∈oj.after,Region.binds md e=true->e.on≠i:=fun listed oj hr hall e he hb heq=>by
  have h1:=hall e he hb
  have h0:=(mem_ready.1 hr).1
  rw [heq] at h1
  by_cases hlt:i<listed.size
  ·simp [hlt] at h0 h1
   rw [h0] at h1
   cases h1
  ·simp [Array.getElem?_eq_none (Nat.le_of_not_lt hlt)] at h1
 induction fuel with
 | zero =>
  intro listed a w _ hr hy hS H
  refine⟨fun h=>(by rw [h] at hr;cases hr),fun j hj=>?_⟩
  by_cases hji:j=i
  ·rw [hji]
   exact hy.wpOp hi trivial ⟨fun h=>hS (by rw [getD_set_ne false hid] at h;exact h),H⟩
  ·have:=ready_mono hj hji
   rw [H.1] at this
   cases this
 | succ fuel ih =>
  intro listed a w hfree hr hy hS H
  refine⟨fun h=>(by rw [h] at hr;cases hr),fun j hj=>?_⟩
  by_cases hji:j=i
  ·rw [hji]
   exact hy.wpOp hi trivial ⟨fun h=>hS (by rw [getD_set_ne false hid] at h;exact h),H⟩
  ·obtain⟨hjun,oj,hoj,hall⟩:=mem_ready.1 hj
   have hno:=waits listed oj hr hall
   have h2:=wpOp_putIf hoj (hfree j oj hoj hji hjun hno) (fun cs b=>hsel i oi cs b hi) (fun cs b=>hsel j oj cs b hoj) hQ hy (H.2 j (ready_mono hj hji))
   refine wpOp_mono (fun a' w' h3=>?_) h2
   have hS':(listed.setIfInBounds j true).getD d false=false->S w':=fun h=>h3.2.1 (by
    by_cases hjd:j=d
    ·rw [hjd] at h ⊢
     rw [Array.setIfInBounds_comm _ _ hid]
     rw [getD_set_ne false hid]
     exact h
    ·rw [getD_set_ne false hjd] at h ⊢
     rw [getD_set_ne false hid]
     exact h)
   refine⟨hS',ih (listed.setIfInBounds j true) a' w' (fun k ok hk hki hun hn=>hfree k ok hk hki ?_ hn) (ready_mono hr (Ne.symm hji)) h3.1 hS' ?_⟩
   ·by_cases hjk:j=k
    ·rw [<- hjk];exact hjun
    ·rw [getD_set_ne true hjk] at hun;exact hun
   ·rw [Array.setIfInBounds_comm _ _ hji]
    exact h3.2.2
theorem wpAnyK_takeY {i:Nat} {oi:Oper} {dd:Option Tmp} {v:Value} {fuel:Nat} {listed:Array Bool} {a:Act} {w:World} (hi:ops[i]?=some oi) (hdd:oi.dst=dd) (hid:i≠d)
  (hs:Region.noSelect ops=true) (hf:Region.free md ops listed i=true) (hr:(Region.ready md ops listed).contains i=true)
  (hQ : ∀ c a w,Q (.panic c) (a.put dd v) w->Q (.panic c) a w) (hy:YieldsIf P ops (fun _=>True) oi v a) (hS:listed.getD d false=false->S w)
  (h:wpAnyK P md ops Q S d fuel (listed.setIfInBounds i true) (a.put dd v) w):wpAnyK P md ops Q S d (fuel+1) listed a w:=by
 subst hdd
 exact wpAnyK_firstY hi hid (Region.noSelect_spec hs) hQ fuel listed a w (Region.free_spec hi hf) (by simpa using hr) hy hS h
theorem wpAnyK_two {i j:Nat} {o o2:Oper} {fuel:Nat} {listed:Array Bool} {a:Act} {w:World} (hr:Region.ready md ops listed=[i,j]) (ho:ops[i]?=some o) (ho2:ops[j]?=some o2)
  (h : ∀ K':Act->World->Prop,Shut (∀ a w,((listed.setIfInBounds i true).getD d false=false->S w)->wpAnyK P md ops Q S d fuel (listed.setIfInBounds i true) a w->K' a w)->if Region.wanted o (yielded ops a.tmps)=true then Oper.wp P o a w K' Q else K' (a.put o.dst undef) w)
  (h2 : ∀ K':Act->World->Prop,Shut (∀ a w,((listed.setIfInBounds j true).getD d false=false->S w)->wpAnyK P md ops Q S d fuel (listed.setIfInBounds j true) a w->K' a w)->if Region.wanted o2 (yielded ops a.tmps)=true then Oper.wp P o2 a w K' Q else K' (a.put o2.dst undef) w):wpAnyK P md ops Q S d (fuel+1) listed a w :=
 wpAnyK_ready hr (by simp) fun k hk=>by
  have e:k=i\/k=j:=by simpa using hk
  rcases e with rfl | rfl
  ·exact wpOp_step ho fun K' hK=>h K' fun a w hS hW=>hK a w ⟨hS,hW⟩
  ·exact wpOp_step ho2 fun K' hK=>h2 K' fun a w hS hW=>hK a w ⟨hS,hW⟩
theorem wpAnyK_done {listed:Array Bool} {a:Act} {w:World} (hr:Region.ready md ops listed=[]) (h:Q .normal a w) : ∀ fuel,wpAnyK P md ops Q S d fuel listed a w
 | 0=>⟨hr,h⟩
 | _+1=>⟨fun _=>h,by rw [hr];simp⟩
theorem wp_region_K {id:Nat} {a:Act} {w:World} (d:Nat) (S:World->Prop) (hm:P.follows .mixedOrders=true) (hS:S w.drew)
  (h:S w.drew->wpAnyK P .any ops Q S d ops.size (Array.replicate ops.size false) a w.drew):(Code.region id ops true).wp P Q a w :=
 wp_region_any hm (wpAny_of_K _ _ _ _ (h hS))
theorem tkK (i dd:Nat) {oi:Oper} {v:Value} {fuel:Nat} {listed:Array Bool} {a a2:Act} {w:World} (h:wpAnyK P md ops Q S d fuel (listed.setIfInBounds i true) a2 w) (hi:ops[i]?=some oi:=by rfl) (hdd:oi.dst=some dd:=by kernel_rfl)
  (hw:(match ops[d]? with | some od=>od.after.any (fun e=>Region.binds md e&&e.on==i) | none=>false)=true:=by kernel_rfl) (hdl:listed.getD d false=false:=by kernel_rfl)
  (hs:Region.noSelect ops=true:=by kernel_rfl) (hf:Region.free md ops listed i=true:=by kernel_rfl) (hr:(Region.ready md ops listed).contains i=true:=by kernel_rfl)
  (hQ : ∀ c a w,Q (.panic c) (a.put (some dd) v) w->Q (.panic c) a w:=by exact fun _ _ _ h=>h) (hwt:Region.wanted oi (yielded ops a.tmps)=true:=by kernel_rfl)
  (hy : ∀ w,S w->(execOp a.eval oi).run P w=.ok (.value v) w:=by (intro w hSw;(try dsimp only at hSw);go_simp;try with_reducible rfl)) (hS:S w:=by assumption) (ha:a.put (some dd) v=a2:=by (first | (simp only [Act.put,List.setIfInBounds_toArray,List.set_cons_zero,List.set_cons_succ];done) | (simp only [Act.put,List.setIfInBounds_toArray,List.set_cons_zero,List.set_cons_succ];rfl) | rfl)):wpAnyK P md ops Q S d (fuel+1) listed a w:=by
 subst ha;exact wpAnyK_take hi hdd hw hdl hs hf hr hQ (Or.inl ⟨hwt,hy⟩) hS h
theorem tkY (i dd:Nat) {oi:Oper} {v:Value} {fuel:Nat} {listed:Array Bool} {a a2:Act} {w:World} (hS:listed.getD d false=false->S w) (h:wpAnyK P md ops Q S d fuel (listed.setIfInBounds i true) a2 w) (hi:ops[i]?=some oi:=by rfl) (hdd:oi.dst=some dd:=by kernel_rfl) (hid:i≠d:=by decide)
  (hs:Region.noSelect ops=true:=by kernel_rfl) (hf:Region.free md ops listed i=true:=by kernel_rfl) (hr:(Region.ready md ops listed).contains i=true:=by kernel_rfl)
  (hQ : ∀ c a w,Q (.panic c) (a.put (some dd) v) w->Q (.panic c) a w:=by exact fun _ _ _ h=>h) (hwt:Region.wanted oi (yielded ops a.tmps)=true:=by kernel_rfl)
  (hy : ∀ w,True->(execOp a.eval oi).run P w=.ok (.value v) w:=by (intro w hSw;go_simp;try with_reducible rfl)) (ha:a.put (some dd) v=a2:=by (first | (simp only [Act.put,List.setIfInBounds_toArray,List.set_cons_zero,List.set_cons_succ];done) | (simp only [Act.put,List.setIfInBounds_toArray,List.set_cons_zero,List.set_cons_succ];rfl) | rfl)):wpAnyK P md ops Q S d (fuel+1) listed a w:=by
 subst ha;exact wpAnyK_takeY hi hdd hid hs hf hr hQ (Or.inl ⟨hwt,hy⟩) hS h
theorem rdK (i:Nat) {o:Oper} {fuel:Nat} {listed:Array Bool} {a:Act} {w:World}
  (h : ∀ K':Act->World->Prop,Shut (∀ a w,((listed.setIfInBounds i true).getD d false=false->S w)->wpAnyK P md ops Q S d fuel (listed.setIfInBounds i true) a w->K' a w)->if Region.wanted o (yielded ops a.tmps)=true then Oper.wp P o a w K' Q else K' (a.put o.dst undef) w)
  (hr:Region.ready md ops listed=[i]:=by kernel_rfl) (ho:ops[i]?=some o:=by rfl):wpAnyK P md ops Q S d (fuel+1) listed a w:=wpAnyK_one hr ho h
theorem goK {fuel:Nat} {listed:Array Bool} {C:Prop} {a a2:Act} {w:World} {K:Act->World->Prop} (hK:Shut (∀ a w,(C->S w)->wpAnyK P md ops Q S d fuel listed a w->K a w)) (hs:C->S w) (h:wpAnyK P md ops Q S d fuel listed a2 w) (ha:a=a2:=by (first | (simp only [Act.put,List.setIfInBounds_toArray,List.set_cons_zero,List.set_cons_succ];done) | (simp only [Act.put,List.setIfInBounds_toArray,List.set_cons_zero,List.set_cons_succ];rfl) | rfl)):K a w:=by
 subst ha;exact hK.out _ _ hs h
end
end Go.Proofs.YtpcdinelpfbpfaaDoor
