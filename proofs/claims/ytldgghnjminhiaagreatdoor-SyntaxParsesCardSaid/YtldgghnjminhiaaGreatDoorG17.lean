/-
  WORDS, PLAIN LAWS and WALKS (Mod), pressed. (Filled in from templates of this repo.)
-/
import Derived.Test.YtldgghnjminhiaaGreatDoorG16
namespace Go.Proofs.YtldgghnjminhiaaGreatDoor
open Go Go.ChangeAt Go.ChangeShapes Go.RowKit Go.WideShapes
set_option linter.unusedVariables false
set_option linter.unusedSimpArgs false
set_option maxRecDepth 100000
set_option maxHeartbeats 16000000
def oddL:List Bt:=[[40],[41],[123],[125],[59],[61],[109,97,105,110],[102,49],[103,48],[97],[112,48],[49,50],[48],[102,117,110,99],[118,97,114],[105,102],[101,108,115,101],[119,104,105,108,101],[114,101,116,117,114,110],[112,114,105,110,116],[99,97,108,108],[114,101,97,100],[103,108,111,98,97,108],[91],[93],[44],[38],[38,38],[33],[35],[10],[49,97],[36],[45]]
theorem El:∀ l∈oddL,l.length<=6:=by decide
def Oy (gc m:Nat) (w:World) (e:Ending) (w':World):Prop:=∃ l:Bt,e=.returned (.string (st l))/\l.length<=m/\Cod w' gc/\w.grownBy w' (some gc)
theorem Ph (T:Bt) (i j:Nat) (hj:j<=T.length):∃ A:Bt,(st T).extract i j=st A/\A.length=j-i:=⟨(T.take j).drop i,by rw[Uh],by rw[List.length_drop,List.length_take];omega⟩
theorem Rs {g:Nat} {W:World} (h:W.heap[g]?=some (.cells (Zm oddL).toArray 9 (0,0))):∀ (j:Nat) (x:Bt),oddL[j]?=some x->W.cell? ⟨g,j,none⟩=some (.string (st x)):=λ j x hj=>by
 rw[cell_of_row W g j _ _ _ h,List.getElem?_toArray]
 exact Rp oddL j x hj
theorem Ev (gc:Nat) (w:World) (h:Cod w gc):Calls Tryz.prog 23 #[.pointer (some ⟨gc,0,none⟩)] w (Oy gc 40000 w):=by
 have HC:=Xj h
 clear h
 go_enter Tryz.func23,Tryz.ntmps23
 go_wp2_with fail
 refine(My gc _ HC.o).mono ?_
 rintro e w1 ⟨wx,gs,fs,Fs,aa,ca,ab,cb,rfl,hc1,hg1,hs1⟩
 have hTl:=hs1.len
 obtain⟨T,hT⟩:∃ T,Nn gs Fs=T:=⟨_,rfl⟩
 rw[hT] at hTl ⊢
 clear hT hs1
 have hA:=Xw w1 (.cells (Zm oddL).toArray 9)
 have hr:=heap_alloc_new w1 (.cells (Zm oddL).toArray 9)
 have HC2:=Xj (hc1.below hA hc1.lt)
 have HG2:=Xj (Xb hg1 (Xg hA _))
 have hgc:=hc1.lt
 go_upto_region 3 with fail
 obtain⟨w2,hw2⟩:∃ W,w1.alloc (.cells (Zm oddL).toArray 9)=W:=⟨_,rfl⟩
 have hw3:=hw2
 simp only[oddL,Zm,List.map_cons,List.map_nil] at hw3
 obtain⟨g,hg⟩:∃ x,w1.heap.size=x:=⟨_,rfl⟩
 rw[hw3]
 rw[hw2] at hr HC2 HG2
 rw[hg] at hr hgc ⊢
 have HR:=Xj hr
 have HGC:=Xj hgc
 clear hw2 hw3 hg hA hr hc1 hg1
 have hT64:T.length<=37000:=hTl
 clear hTl
 by_cases hz:T=[]
 ·have hz0:T.length=0:=by rw[hz];rfl
  have hd:((T.length:Int)==0)=true:=by rw[beq_iff_eq];omega
  clear hz
  go_wp2_with fail
  refine(Yq gc 34 (by omega) _ HC2.o).mono ?_
  rintro e w3 ⟨z,rfl,z0,z1,hc3,hg3⟩
  have z2:=z1
  obtain⟨z,rfl⟩:=Int.eq_ofNat_of_zero_le z0
  have hr3:=(hg3.block g (Xv HR.o) (λ e=>by injection e with e;have:=HGC.o;omega)).trans HR.o
  obtain⟨x,hx⟩:∃ x,oddL[z]?=some x:=⟨_,List.getElem?_eq_getElem (by show z<34;omega)⟩
  have hcx:=Rs hr3 z x hx
  have hxl:=El x (List.mem_of_getElem? hx)
  have HF:=Xj (And.intro hc3 (Xb HG2.o hg3))
  have hz34:(z:Int)<34:=by omega
  clear z1 z2 hr3 hx hc3 hg3
  go_wp2_with fail
  refine bodyPost_ret (v:=.string (st x)) (by simp[results,Tryz.results23,go_sem]) rfl ?_
  exact⟨x,rfl,by omega,HF.o⟩
 have hTp:0<T.length:=by cases T;exact absurd rfl hz;simp
 have hd:((T.length:Int)==0)=false:=by rw[beq_eq_false_iff_ne];omega
 clear hz
 go_wp2_with fail
 refine(Yq gc T.length (by omega) _ HC2.o).mono ?_
 rintro e w3 ⟨k,rfl,z0,z1,hc3,hg3⟩
 have z2:=z1
 obtain⟨k,rfl⟩:=Int.eq_ofNat_of_zero_le z0
 have hk:k<T.length:=by omega
 have hr3:=(hg3.block g (Xv HR.o) (λ e=>by injection e with e;have:=HGC.o;omega)).trans HR.o
 have HC3:=Xj hc3
 have HG3:=Xj (Xb HG2.o hg3)
 clear z0 z1 z2 hc3 hg3
 go_wp2_with fail
 refine(Yq gc 3 (by omega) _ HC3.o).mono ?_
 rintro e w4 ⟨m,rfl,z0,z1,hc4,hg4⟩
 have z2:=z1
 have hr4:=(hg4.block g (Xv HR.o|>λ _=>Xv hr3) (λ e=>by injection e with e;have:=HGC.o;omega)).trans hr3
 have HC4:=Xj hc4
 have HG4:=Xj (Xb HG3.o hg4)
 have HR4:=Xj hr4
 have hmq:Xq (∀ W,w4.grownBy W (some gc)->∀ (j:Nat) (x:Bt),oddL[j]?=some x->W.cell? ⟨g,j,none⟩=some (.string (st x))):=Xj (λ W hW=>Rs ((hW.block g (Xv HR4.o) (λ e=>by injection e with e;have:=HGC.o;omega)).trans HR4.o))
 clear z1 hc4 hg4 hr3 hr4
 obtain⟨A,hA,hAl⟩:=Ph T 0 k (by omega)
 obtain⟨B,hB,hBl⟩:=Ph T (k+1) T.length (Nat.le_refl _)
 obtain⟨C,hC,hCl⟩:=Ph T k T.length (Nat.le_refl _)
 have hk1:(k:Int)+1<=(T.length:Int):=by omega
 have hk2:(k:Int)<=(T.length:Int):=by omega
 have hk3:(0:Int)<=(k:Int)+1:=by omega
 have hk4:(0:Int)<=(k:Int):=by omega
 have hw1:IntKind.i64.wrap ((k:Int)+1)=(k:Int)+1:=by rw[IntKind.wrap_i64];omega
 have hst:=Qq
 have hab:¬ 9223372036854775807<A.length+B.length:=by omega
 have HAL:=Xj hAl
 have HBL:=Xj hBl
 have HCL:=Xj hCl
 clear hAl hBl hCl
 have hm:m=0\/m=1\/m=2:=by omega
 clear z0 z2
 rcases hm with rfl|rfl|rfl
 ·go_upto_region 8 with fail
  refine wp_region_held_drew (S:=(λ _=>True)) (by kernel_rfl) trivial (λ hJ=>?_)
  refine tkH 0 27 ?_
  refine tkH 1 28 ?_
  refine tkH 2 29 ?_
  refine tkH 3 30 ?_
  refine tkH 4 31 ?_
  refine tkH 5 32 ?_
  refine tkH 6 33 ?_
  refine tkH 7 34 ?_
  refine tkH 8 2 ?_
  refine wpAnyH_done (by kernel_rfl) ?_ _
  refine Xz ?_
  go_wp2_with fail
  refine bodyPost_ret (v:=.string (st (A++B))) (by simp[results,Tryz.results23,go_sem]) rfl ?_
  exact⟨A++B,rfl,by have:=HAL.o;have:=HBL.o;rw[List.length_append];omega,HC4.o.drew,Xb HG4.o (Xt _ 1 _)⟩
 ·go_upto_region 10 with fail
  have hS0:∀ (j:Nat) (x:Bt),oddL[j]?=some x->w4.drew.cell? ⟨g,j,none⟩=some (.string (st x)):=hmq.o _ (Xt _ 1 _)
  refine wp_region_held_drew (S:=(λ w'=>∀ (j:Nat) (x:Bt),oddL[j]?=some x->w'.cell? ⟨g,j,none⟩=some (.string (st x)))) (by kernel_rfl) hS0 (λ hJ=>?_)
  refine tkH 0 37 ?_
  refine tkH 1 38 ?_
  refine tkH 2 39 ?_
  refine tkH 3 40 ?_
  refine tkH 4 41 ?_
  refine tkH 5 42 ?_
  refine tkH 6 43 ?_
  refine tkH 11 48 ?_
  refine tkH 12 49 ?_
  refine tkH 13 50 ?_
  refine rdH 7 λ K hK=>?_
  go_simp
  refine(Yq gc 34 (by omega) _ HC4.o.drew).mono ?_
  rintro e wy ⟨y,rfl,y0,y1,hH,hg0⟩
  have y2:=y1
  obtain⟨y,rfl⟩:=Int.eq_ofNat_of_zero_le y0
  have hg:=Xb (Xt w4 1 (some gc)) hg0
  refine goH hK (hmq.o _ hg) λ hJ=>?_
  clear hK K hg0
  obtain⟨x,hx⟩:∃ x,oddL[y]?=some x:=⟨_,List.getElem?_eq_getElem (by show y<34;omega)⟩
  have hxl:=El x (List.mem_of_getElem? hx)
  have hy34:(y:Int)<34:=by omega
  have HF:=Xj (And.intro hH (Xb HG4.o hg))
  clear hH hg y0 y1 y2
  have hax:¬ 9223372036854775807<A.length+x.length:=by have:=HAL.o;omega
  have haxc:¬ 9223372036854775807<A.length+x.length+C.length:=by have:=HAL.o;have:=HCL.o;omega
  have hhn:¬ 9223372036854775807<A.length+(x.length+C.length):=by have:=HAL.o;have:=HCL.o;omega
  have habx:¬ 9223372036854775807<A.length+B.length+x.length:=by have:=HAL.o;have:=HBL.o;omega
  refine tkH 8 45 ?_
  refine Xr (i:=9) (d:=some 46) (v:=.string (st x)) rfl (by kernel_rfl) (by kernel_rfl) (by kernel_rfl) (by kernel_rfl) (λ _ _ _ h=>h) (Or.inl ⟨by kernel_rfl,?_⟩) (by assumption) ?_
  ·(intro w hSw;have hcx:=hSw y x hx;go_simp;try with_reducible rfl)
  refine Xz ?_
  refine tkH 10 47 ?_
  refine tkH 14 51 ?_
  refine tkH 15 2 ?_
  refine wpAnyH_done (by kernel_rfl) ?_ _
  refine Xz ?_
  go_wp2_with fail
  refine bodyPost_ret (v:=.string (st (A++(x++C)))) (by simp[results,Tryz.results23,go_sem]) rfl ?_
  exact⟨A++(x++C),rfl,by have:=HAL.o;have:=HBL.o;have:=HCL.o;simp only[List.length_append];omega,HF.o⟩
 go_upto_region 11 with fail
 have hS0:∀ (j:Nat) (x:Bt),oddL[j]?=some x->w4.drew.cell? ⟨g,j,none⟩=some (.string (st x)):=hmq.o _ (Xt _ 1 _)
 refine wp_region_held_drew (S:=(λ w'=>∀ (j:Nat) (x:Bt),oddL[j]?=some x->w'.cell? ⟨g,j,none⟩=some (.string (st x)))) (by kernel_rfl) hS0 (λ hJ=>?_)
 refine tkH 0 52 ?_
 refine tkH 1 53 ?_
 refine tkH 2 54 ?_
 refine tkH 3 55 ?_
 refine tkH 4 56 ?_
 refine tkH 5 57 ?_
 refine tkH 6 58 ?_
 refine tkH 7 59 ?_
 refine tkH 8 60 ?_
 refine tkH 9 61 ?_
 refine tkH 10 62 ?_
 refine tkH 11 63 ?_
 refine rdH 12 λ K hK=>?_
 go_simp
 refine(Yq gc 34 (by omega) _ HC4.o.drew).mono ?_
 rintro e wy ⟨y,rfl,y0,y1,hH,hg0⟩
 have y2:=y1
 obtain⟨y,rfl⟩:=Int.eq_ofNat_of_zero_le y0
 have hg:=Xb (Xt w4 1 (some gc)) hg0
 refine goH hK (hmq.o _ hg) λ hJ=>?_
 clear hK K hg0
 obtain⟨x,hx⟩:∃ x,oddL[y]?=some x:=⟨_,List.getElem?_eq_getElem (by show y<34;omega)⟩
 have hxl:=El x (List.mem_of_getElem? hx)
 have hy34:(y:Int)<34:=by omega
 have HF:=Xj (And.intro hH (Xb HG4.o hg))
 clear hH hg y0 y1 y2
 have hax:¬ 9223372036854775807<A.length+x.length:=by have:=HAL.o;omega
 have haxc:¬ 9223372036854775807<A.length+x.length+C.length:=by have:=HAL.o;have:=HCL.o;omega
 have hhn:¬ 9223372036854775807<A.length+(x.length+C.length):=by have:=HAL.o;have:=HCL.o;omega
 have habx:¬ 9223372036854775807<A.length+B.length+x.length:=by have:=HAL.o;have:=HBL.o;omega
 refine tkH 13 65 ?_
 refine Xr (i:=14) (d:=some 66) (v:=.string (st x)) rfl (by kernel_rfl) (by kernel_rfl) (by kernel_rfl) (by kernel_rfl) (λ _ _ _ h=>h) (Or.inl ⟨by kernel_rfl,?_⟩) (by assumption) ?_
 ·(intro w hSw;have hcx:=hSw y x hx;go_simp;try with_reducible rfl)
 refine Xz ?_
 refine tkH 15 67 ?_
 refine tkH 16 2 ?_
 refine wpAnyH_done (by kernel_rfl) ?_ _
 refine Xz ?_
 go_wp2_with fail
 refine bodyPost_ret (v:=.string (st (A++(B++x)))) (by simp[results,Tryz.results23,go_sem]) rfl ?_
 exact⟨A++(B++x),rfl,by have:=HAL.o;have:=HBL.o;have:=HCL.o;simp only[List.length_append];omega,HF.o⟩
end Go.Proofs.YtldgghnjminhiaaGreatDoor
