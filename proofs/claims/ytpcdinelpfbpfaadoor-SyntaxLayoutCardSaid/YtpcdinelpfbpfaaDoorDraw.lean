/-
  DRAWS: warmpathdraw.New and (*Codes).Next: what they leave. (Filled in from a template of this repo: the numbers are those of this seat.)
-/
import Derived.Test.YtpcdinelpfbpfaaDoorRows
import Derived.Test.YtpcdinelpfbpfaaDoorBase
namespace Go.Proofs.YtpcdinelpfbpfaaDoor
open Go.ChangeShapes Go.WideShapes Go.ChangeAt Go.RowKit

def Cod (w:World) (g:Nat):Prop :=
 ∃ (a:Option Addr) (len cap at_:Nat),w.heap[g]?=some (.cells #[.slice a len cap,.int .i64 at_] 44 (0,0))/\at_<=len/\len<=9223372036854775807 /\
  ∀ i,i<len -> ∃ b off,a=some ⟨b,off,none⟩/\b<g /\ ∃ z:Int,w.cell? ⟨b,off+i,none⟩=some (.int .u8 z)/\0<=z/\z<=255
theorem Cod.keep {w w':World} {g:Nat} (h:Cod w g) (hk : ∀ k,k<=g->w'.heap[k]?=w.heap[k]?):Cod w' g:=by
 obtain⟨a,len,cap,at_,h1,h2,h3,h4⟩:=h
 refine⟨a,len,cap,at_,(hk g (Nat.le_refl _)).trans h1,h2,h3,fun i hi=>?_⟩
 obtain⟨b,off,e,hb,z,hc,hz⟩:=h4 i hi
 exact⟨b,off,e,hb,z,(World.cell?_of_block (w:=w) (hk b (by omega))).trans hc,hz⟩
theorem Cod.lt {w:World} {g:Nat} (h:Cod w g):g<w.heap.size:=by
 obtain⟨a,len,cap,at_,h1,_⟩:=h
 exact(Array.getElem?_eq_some_iff.1 h1).1
theorem Cod.below {w w':World} {g B:Nat} (h:Cod w g) (hb:Below B w w') (hB:g<B):Cod w' g:=h.keep fun k hk=>hb.block k (by omega)
theorem Cod.alloc {w:World} {g:Nat} (h:Cod w g) (o:Obj):Cod (w.alloc o) g:=h.keep fun k hk=>Below.heap_alloc w o k (by have:=h.lt;omega)
theorem Cod.drew {w:World} {g:Nat} (h:Cod w g):Cod w.drew g:=h
theorem Cod.grown {w w':World} {g:Nat} {row:Option Nat} (h:Cod w g) (hg:w.grownBy w' row) (hr : ∀ k,row=some k->g<k):Cod w' g :=
 h.keep fun k hk=>hg.block k (by have:=h.lt;omega) (fun e=>by have:=hr k e.symm;omega)
theorem Cod.setCell {w:World} {g:Nat} (h:Cod w g) {p:Addr} (hp:g<p.block) (v:Value):Cod (w.setCell p v) g :=
 h.keep fun k hk=>heap_setCell_other w p k v (by omega)

def NextPost (g:Nat) (n:Int) (w:World) (e:Ending) (w':World):Prop :=
 ∃ x:Int,e=.returned (.int .i64 x)/\0<=x/\x<max n 1/\Cod w' g/\w.grownBy w' (some g)

theorem grownBy_refl (w:World) (row:Option Nat):w.grownBy w row:=⟨rfl,rfl,rfl,Nat.le_refl _,fun _ _ _=>rfl⟩
theorem grownBy_drewN (w:World) (n:Nat) (row:Option Nat):w.grownBy (w.drewN n) row:=⟨rfl,rfl,rfl,Nat.le_refl _,fun _ _ _=>rfl⟩
theorem grownBy_trans {a b c:World} {row:Option Nat} (h:a.grownBy b row) (k:b.grownBy c row):a.grownBy c row :=
 ⟨k.os.trans h.os,k.tape.trans h.tape,k.output.trans h.output,Nat.le_trans h.size k.size,fun i hi hn=>(k.block i (by have:=h.size;omega) hn).trans (h.block i hi hn)⟩
theorem grownBy_set (w:World) (g o:Nat) (v:Value):w.grownBy (w.setCell ⟨g,o,none⟩ v) (some g) :=
 ⟨rfl,rfl,rfl,by simp [World.setCell],fun k _ hn=>heap_setCell_other w _ k v (fun e=>hn (by rw [e]))⟩
theorem below_grown1 {B:Nat} {a w w':World} {g:Nat} (h:Below B a w) (hg:w.grownBy w' (some g)) (hB:B<=w.heap.size) (hr:B<=g):Below B a w' :=
 h.grown hg hB (fun k e=>by injection e with e;omega)

theorem Cod.step {w:World} {g:Nat} {a:Option Addr} {len cap at_:Nat} (h1:w.heap[g]?=some (.cells #[.slice a len cap,.int .i64 at_] 44 (0,0))) (h2:at_<len) (h3:len<=9223372036854775807)
  (h4 : ∀ i,i<len -> ∃ b off,a=some ⟨b,off,none⟩/\b<g /\ ∃ z:Int,w.cell? ⟨b,off+i,none⟩=some (.int .u8 z)/\0<=z/\z<=255):Cod (w.setCell ⟨g,1,none⟩ (.int .i64 ((at_:Int)+1))) g:=by
 refine⟨a,len,cap,at_+1,?_,by omega,h3,fun i hi=>?_⟩
 ·have:=heap_setCell_same w g 1 _ _ (.int .i64 ((at_:Int)+1)) h1
  exact this
 ·obtain⟨b,off,e,hb,z,hc,hz⟩:=h4 i hi
  exact⟨b,off,e,hb,z,(World.cell?_of_block (w:=w) (heap_setCell_other w _ b _ (by simp;omega))).trans hc,hz⟩

set_option maxRecDepth 100000 in
set_option maxHeartbeats 1000000 in
theorem Next_small (g:Nat) (n:Int) (hn:n<=256) (w:World) (h:Cod w g):Calls Tryd.prog 7 #[.pointer (some ⟨g,0,none⟩),.int .i64 n] w (NextPost g n w):=by
 have hC:=h
 obtain⟨a,len,cap,at_,h1,h2,h3,h4⟩:=h
 have c0:w.cell? ⟨g,0,none⟩=some (.slice a len cap):=by rw [cell_of_row w g 0 _ _ _ h1];rfl
 have c1:w.cell? ⟨g,1,none⟩=some (.int .i64 at_):=by rw [cell_of_row w g 1 _ _ _ h1];rfl
 have f1:=frozen_of_row w g 1 _ _ h1
 by_cases hat:at_<len
 ·have d0:decide (len<=at_)=false:=by simp;omega
  by_cases hn1:n<1
  ·have HC:=Lib.hid hC
   clear hC h1 h4
   go_enter Tryd.func7,Tryd.ntmps7
   go_wp2
   go_quiet (fail)
   go_wp2
   go_ret
   exact⟨0,rfl,by omega,by omega,HC.out.keep fun _ _=>rfl,grownBy_drewN w _ _⟩
  ·obtain⟨b,off,rfl,hb,z,hz,hz0,hz1⟩:=h4 at_ hat
   have H4:=Lib.hid h4
   have H1:=Lib.hid h1
   clear hC h1 h4
   have i0:(0:Int)<=(at_:Int):=by omega
   have i1:(at_:Int)<(len:Int):=by omega
   have e2:decide ((256:Int)<n)=false:=by simp;omega
   have m0:0<=z % n:=Int.emod_nonneg _ (by omega)
   have m1:z % n<n:=Int.emod_lt_of_pos _ (by omega)
   go_enter Tryd.func7,Tryd.ntmps7
   go_wp2
   go_quiet (fail)
   go_wp2
   go_quiet (fail)
   go_wp2
   go_ret
   exact⟨z % n,rfl,m0,by omega,(Cod.step H1.out hat h3 H4.out).keep fun _ _=>rfl,grownBy_trans (grownBy_drewN w _ _) (grownBy_set _ g 1 _)⟩
 ·have d0:decide (len<=at_)=true:=by simp;omega
  have HC:=Lib.hid hC
  clear hC h1 h4
  go_enter Tryd.func7,Tryd.ntmps7
  go_wp2
  go_quiet (fail)
  go_wp2
  go_ret
  exact⟨0,rfl,by omega,by omega,HC.out.keep fun _ _=>rfl,grownBy_drewN w _ _⟩

set_option maxRecDepth 100000 in
set_option maxHeartbeats 1000000 in
theorem Next_any (g:Nat) (n:Int) (hnm:n<=9223372036854775807) (w:World) (h:Cod w g):Calls Tryd.prog 7 #[.pointer (some ⟨g,0,none⟩),.int .i64 n] w (NextPost g n w):=by
 by_cases hn:n<=256
 ·exact Next_small g n hn w h
 have hC:=h
 obtain⟨a,len,cap,at_,h1,h2,h3,h4⟩:=h
 have c0:w.cell? ⟨g,0,none⟩=some (.slice a len cap):=by rw [cell_of_row w g 0 _ _ _ h1];rfl
 have c1:w.cell? ⟨g,1,none⟩=some (.int .i64 at_):=by rw [cell_of_row w g 1 _ _ _ h1];rfl
 have f1:=frozen_of_row w g 1 _ _ h1
 have hn1 : ¬ n<1:=by omega
 have e2:decide ((256:Int)<n)=true:=by simp;omega
 by_cases hat:at_<len
 ·have d0:decide (len<=at_)=false:=by simp;omega
  obtain⟨b,off,rfl,hb,z,hz,hz0,hz1⟩:=h4 at_ hat
  have H4:=Lib.hid h4
  have H1:=Lib.hid h1
  clear hC h1 h4
  have i0:(0:Int)<=(at_:Int):=by omega
  have i1:(at_:Int)<(len:Int):=by omega
  go_enter Tryd.func7,Tryd.ntmps7
  go_wp2_with fail
  go_quiet (fail)
  go_wp2_with fail
  go_quiet (fail)
  go_wp2_with fail
  refine(Next_small g 256 (by omega) _ ?hc).mono ?_
  case hc=>exact(Cod.step H1.out hat h3 H4.out).keep fun _ _=>rfl
  rintro e w1 ⟨y,rfl,y0,y1,hcod,hgr⟩
  have y2:y<256:=by omega
  have m0:0<=(256 * z+y) % n:=Int.emod_nonneg _ (by omega)
  have m1:(256 * z+y) % n<n:=Int.emod_lt_of_pos _ (by omega)
  go_wp2_with fail
  go_ret
  exact⟨(256 * z+y) % n,rfl,m0,by omega,hcod,grownBy_trans (grownBy_trans (grownBy_drewN w _ _) (grownBy_set _ g 1 _)) hgr⟩
 ·have d0:decide (len<=at_)=true:=by simp;omega
  have HC:=Lib.hid hC
  clear hC h1 h4
  go_enter Tryd.func7,Tryd.ntmps7
  go_wp2_with fail
  go_quiet (fail)
  go_wp2_with fail
  go_ret
  exact⟨0,rfl,by omega,by omega,HC.out.keep fun _ _=>rfl,grownBy_drewN w _ _⟩

def NewPost (w:World) (e:Ending) (w':World):Prop := ∃ g,e=.returned (.pointer (some ⟨g,0,none⟩))/\w.heap.size<=g/\Cod w' g/\Below w.heap.size w w'

theorem Cod.new {w:World} {a:Option Addr} {len0 len cap:Nat} {zs:List Int} (hl:len<=len0) (hm:len0<=9223372036854775807)
  (h : ∀ i,i<len0 -> ∃ b off,a=some ⟨b,off,none⟩/\b<w.heap.size/\w.cell? ⟨b,off+i,none⟩=some (.int .u8 (zs.getD i 0))/\(Lit.int .u8 (zs.getD i 0)).wf=true) :
  Cod (w.alloc (.cells #[.slice a len cap,.int .i64 0] 44)) w.heap.size:=by
 refine⟨a,len,cap,0,heap_alloc_new w _,by omega,by omega,fun i hi=>?_⟩
 obtain⟨b,off,e,hb,hc,hw⟩:=h i (by omega)
 exact⟨b,off,e,hb,_,(World.cell?_of_block (w:=w) (Below.heap_alloc w _ b hb)).trans hc,bounds_u8 hw⟩

set_option maxRecDepth 100000 in
set_option maxHeartbeats 1000000 in
theorem New_any (a:Option Addr) (len cap:Nat) (zs:List Int) (most:Int) (hm0:0<=most) (hm:most<=9223372036854775807) (w:World) (h:InInts .u8 w a len cap zs) :
  Calls Tryd.prog 5 #[.slice a len cap,.int .i64 most] w (NewPost w):=by
 obtain⟨hz,hlc,⟨hcm,_⟩,hcell⟩:=h
 unfold maxLen at hcm
 obtain⟨most,rfl⟩:=Int.eq_ofNat_of_zero_le hm0
 have H:=Lib.hid hcell
 clear hcell
 by_cases hl:most<len
 ·have d0:decide ((most:Int)<(len:Int))=true:=by simp;omega
  go_enter Tryd.func5,Tryd.ntmps5
  go_wp2_with fail
  go_ret
  exact⟨w.heap.size,rfl,Nat.le_refl _,Cod.new (by omega) (by omega) H.out,(Below.refl _ _).alloc (Nat.le_refl _) _⟩
 ·have d0:decide ((most:Int)<(len:Int))=false:=by simp;omega
  go_enter Tryd.func5,Tryd.ntmps5
  go_wp2_with fail
  go_ret
  exact⟨w.heap.size,rfl,Nat.le_refl _,Cod.new (Nat.le_refl _) (by omega) H.out,(Below.refl _ _).alloc (Nat.le_refl _) _⟩
end Go.Proofs.YtpcdinelpfbpfaaDoor
