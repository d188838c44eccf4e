/-
  WALK of awake of chapter 4. (Filled in from a template of this repo.)
-/
import Derived.Test.YtpcdinelpfbpfaaDoorQsL
import Derived.Test.YtpcdinelpfbpfaaDoorQnO
namespace Go.Proofs.YtpcdinelpfbpfaaDoor
open Go.ChangeShapes Go.WideShapes Go.ChangeAt Go.RowKit
set_option linter.unusedVariables false
set_option linter.unusedSimpArgs false

theorem awake_tree:okT [49,32,43,32,50,32,42,32,51]=some (nd 6 3 0 1 [] (.cons ⟨1,0,1,1,[]⟩ .nil (.cons ⟨6,5,0,1,[]⟩ (.cons ⟨1,0,2,1,[]⟩ .nil (.cons ⟨1,0,3,1,[]⟩ .nil .nil)) .nil))):=by kernel_rfl
set_option maxRecDepth 100000 in
set_option maxHeartbeats 4000000 in
theorem awake4_any (w:World) (hw:Lad w):Calls Tryd.prog 4 #[] w fun e w'=>e=.returned (.bool true)/\Below w.heap.size w w':=by
 have HSC:=Lib.hid (ParseExpr_any [49,32,43,32,50,32,42,32,51] (by decide) w hw)
 clear hw
 go_enter Tryd.func4,Tryd.ntmps4
 go_wp2_with fail
 refine HSC.out.mono ?_
 intro e w1 hp
 have hb:=hp.1
 obtain⟨h0,ar,a,n,c,rfl,hF,hA⟩:=pe_ok hp (by decide) awake_tree
 obtain⟨rfl,rfl⟩:(⟨6,3,0,1,[]⟩:Hd)=h0/\(Fo.cons ⟨1,0,1,1,[]⟩ .nil (.cons ⟨6,5,0,1,[]⟩ (.cons ⟨1,0,2,1,[]⟩ .nil (.cons ⟨1,0,3,1,[]⟩ .nil .nil)) .nil))=ar:=by
  injection hF with h1 h2
  exact⟨h1,h2⟩
 obtain⟨a',c',hs,_⟩:=hA.le
 injection hs with e1 e2 e3
 subst e1 e3
 obtain rfl:n=2:=e2
 obtain⟨b,off,asl,csl,rfl,hbl,_,_,q1,_⟩:=hA.got (j:=1) (x:=(⟨6,5,0,1,[]⟩,_)) rfl
 have q2:=cell_ml (.cells (ecs ⟨6,3,0,1,[]⟩ (.slice (some ⟨b,off,none⟩) 2 c)) 40) q1
 have HB:=Lib.hid (hb.alloc hb.size (.cells (ecs ⟨6,3,0,1,[]⟩ (.slice (some ⟨b,off,none⟩) 2 c)) 40))
 have HX:=Lib.hid (Lc.new w1 ⟨6,3,0,1,[]⟩ (.slice (some ⟨b,off,none⟩) 2 c))
 clear hb hp hA q1 hF
 go_upto_region 2 with fail
 obtain⟨w2,hw2⟩ : ∃ W,w1.alloc (.cells (ecs ⟨6,3,0,1,[]⟩ (.slice (some ⟨b,off,none⟩) 2 c)) 40)=W:=⟨_,rfl⟩
 obtain⟨gx,hgx⟩ : ∃ x,w1.heap.size=x:=⟨_,rfl⟩
 have hw3:=hw2
 simp only [ecs] at hw3
 (try rw [hw3])
 rw [hw2] at q2 HB HX
 rw [hgx] at HX
 (try rw [hgx])
 clear hw2 hw3 hgx
 obtain⟨x0,x1,x2,x3,x4,x5⟩:=HX.out.cells
 have hlX:=HX.out.lt
 (try dsimp only at x0 x1 x2 x3 x4 x5 q2)
 have q3:w2.cell? ⟨b,off+6+1,none⟩=some (.int .i64 5):=q2
 clear q2
 go_wp2_with fail
 go_ret
 exact⟨rfl,HB.out⟩
end Go.Proofs.YtpcdinelpfbpfaaDoor
