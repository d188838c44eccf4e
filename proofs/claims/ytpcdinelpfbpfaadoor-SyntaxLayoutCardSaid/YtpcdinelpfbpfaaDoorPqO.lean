/-
  WORDS of the implementation's parser's source: what comes of a program; its rows in memory. (Filled in from a template of this repo.)
-/
import Derived.Test.YtpcdinelpfbpfaaDoorPqF
namespace Go.Proofs.YtpcdinelpfbpfaaDoor
open Go.ChangeShapes Go.WideShapes Go.ChangeAt Go.RowKit
set_option linter.unusedVariables false
set_option linter.unusedSimpArgs false

def gcs (gs:List (Bt×Int)):List Value:=gs.flatMap fun x=>[Value.string (st x.1),.int .i64 x.2]
theorem gcs_snoc (gs:List (Bt×Int)) (x:Bt×Int):gcs (gs++[x])=gcs gs++[.string (st x.1),.int .i64 x.2]:=by simp [gcs]
def FusAt (w:World) (P:Nat->Prop):List Fu->List Value->Prop
 | [],cs=>cs=[]
 | f::l,cs => ∃ vp vb cs',cs=[.string (st f.nm),.int .i64 f.ln,vp,vb]++cs'/\PsAt w P f.ps vp/\StsAt w P f.S vb/\FusAt w P l cs'
theorem FusAt.keep {w w':World} {P Q:Nat->Prop} {l:List Fu} {cs:List Value} (h:FusAt w P l cs) (hk : ∀ b,P b->b<w.heap.size->w'.heap[b]?=w.heap[b]?/\Q b) (hs:w.heap.size<=w'.heap.size):FusAt w' Q l cs:=by
 induction l generalizing cs with
 | nil=>exact h
 | cons f l ih =>
  obtain⟨vp,vb,cs',e,h1,h2,h3⟩:=h
  exact⟨vp,vb,cs',e,h1.keep hk hs,h2.keep hk hs,ih h3⟩
theorem FusAt.snoc {w:World} {P:Nat->Prop} {l:List Fu} {cs:List Value} {f:Fu} {vp vb:Value} (h:FusAt w P l cs) (hp:PsAt w P f.ps vp) (hb:StsAt w P f.S vb):FusAt w P (l++[f]) (cs++[.string (st f.nm),.int .i64 f.ln,vp,vb]):=by
 induction l generalizing cs with
 | nil=>rw [show cs=[] from h];exact⟨vp,vb,[],by simp,hp,hb,rfl⟩
 | cons g l ih =>
  obtain⟨vp',vb',cs',e,h1,h2,h3⟩:=h
  exact⟨vp',vb',cs'++[.string (st f.nm),.int .i64 f.ln,vp,vb],by rw [e];simp,h1,h2,ih h3⟩
def Lo (wx:World) (b:Nat) (va vb:Value):Prop:=wx.heap[b]?=some (.cells #[va,vb] 32 (0,0))
section
variable {wx wy:World} {b:Nat} {va vb:Value}
theorem Lo.lt (h:Lo wx b va vb):b<wx.heap.size:=heap_lt h
theorem Lo.al (h:Lo wx b va vb) (o:Obj):Lo (wx.alloc o) b va vb:=(Below.heap_alloc wx o b h.lt).trans h
theorem Lo.be (h:Lo wx b va vb) (hb:Below wx.heap.size wx wy):Lo wy b va vb:=(hb.block b h.lt).trans h
theorem Lo.grw {row:Option Nat} (h:Lo wx b va vb) (hg:wx.grownBy wy row) (hn:row≠some b):Lo wy b va vb:=(hg.block b h.lt (fun e=>hn e.symm)).trans h
theorem Lo.s1 (h:Lo wx b va vb) {p:Addr} {v:Value} (hn:b≠p.block):Lo (wx.setCell p v) b va vb:=(heap_setCell_other wx p b v hn).trans h
theorem Lo.s0 (h:Lo wx b va vb) (v:Value):Lo (wx.setCell ⟨b,0,none⟩ v) b v vb:=heap_setCell_same wx b 0 _ _ _ h
theorem Lo.sf (h:Lo wx b va vb) (v:Value):Lo (wx.setCell ⟨b,1,none⟩ v) b va v:=heap_setCell_same wx b 1 _ _ _ h
theorem Lo.s2 (h:Lo wx b va vb) (a2 b2:Value):Lo ((wx.setCell ⟨b,0,none⟩ a2).setCell ⟨b,1,none⟩ b2) b a2 b2:=heap_setCell_same _ b 1 _ _ _ (heap_setCell_same wx b 0 _ _ _ h)
theorem Lo.cells (h:Lo wx b va vb):wx.cell? ⟨b,0,none⟩=some va/\wx.cell? ⟨b,1,none⟩=some vb:=⟨cell_of_row _ b 0 _ _ _ h,cell_of_row _ b 1 _ _ _ h⟩
theorem Lo.froz (h:Lo wx b va vb):wx.frozen? ⟨b,0,none⟩=false/\wx.frozen? ⟨b,1,none⟩=false:=⟨frozen_of_row _ b 0 _ _ h,frozen_of_row _ b 1 _ _ h⟩
end
abbrev zsrc:Obj:=.cells #[.slice none 0 0,.slice none 0 0] 32
theorem Lo.zero (w:World):Lo (w.alloc zsrc) w.heap.size nilS nilS:=heap_alloc_new w _
abbrev sov (va vb:Value):Value:=.agg #[va,vb]
def SoAt (w:World) (P:Nat->Prop) (gs:List (Bt×Int)) (fs:List Fu) (va vb:Value):Prop :=
 ∃ (ga:Option Addr) (gc:Nat) (fa:Option Addr) (fc:Nat) (ys:List Value),va=.slice ga gs.length gc/\vb=.slice fa fs.length fc/\gs.length<=gc/\gc<=maxLen/\fs.length<=fc/\fc<=maxLen/\SlAt w P ga (gcs gs)/\SlAt w P fa ys/\FusAt w P fs ys
theorem SoAt.keep {w w':World} {P Q:Nat->Prop} {gs:List (Bt×Int)} {fs:List Fu} {va vb:Value} (h:SoAt w P gs fs va vb) (hk : ∀ b,P b->b<w.heap.size->w'.heap[b]?=w.heap[b]?/\Q b) (hs:w.heap.size<=w'.heap.size):SoAt w' Q gs fs va vb:=by
 obtain⟨ga,gc,fa,fc,ys,h1,h2,h3,h4,h5,h6,h7,h8,h9⟩:=h
 exact⟨ga,gc,fa,fc,ys,h1,h2,h3,h4,h5,h6,h7.keep hk hs,h8.keep hk hs,h9.keep hk hs⟩
def SoQ (K:PC) (rest:List Tk) (w:World) (e:Ending) (w':World):Prop :=
 ∃ (ga:Option Addr) (gn gc:Nat) (fa:Option Addr) (fn fc:Nat) (wr:Int) (ok:Bool) (at2:Nat) (r:List Tk),e=.returned (.tuple #[sov (.slice ga gn gc) (.slice fa fn fc),.bool ok])/\PAt w' (K.mk' wr) at2 r/\w.grownBy w' (some K.g) /\
  Hid ((ok=true /\ ∃ gs fs,So K.wr [] [] rest (.ok gs fs wr r)/\SoAt w' (fun b=>w.heap.size<=b) gs fs (.slice ga gn gc) (.slice fa fn fc))\/(ok=false/\So K.wr [] [] rest (.bad r)))
structure OD (K:PC) (w:World) (gR go:Nat) (wr:Int) (gs:List (Bt×Int)) (fs:List Fu) (va:Value) (ng:Nat) (vb:Value) (nf:Nat) (ys:List Value) (at2:Nat) (r:List Tk) (wx:World):Prop where
 ms:MS (K.mk' wr) w wx at2 r
 rc:Lo wx gR nilS nilS
 oc:Lo wx go va vb
 og:wx.ownsRow w.heap.size 62 2 va ng (gcs gs)
 lg:gs.length=ng
 of:wx.ownsRow w.heap.size 66 4 vb nf ys
 ff:FusAt wx (fun b=>w.heap.size<=b/\b≠gR/\b≠go/\some b≠va.ownBlock/\some b≠vb.ownBlock) fs ys
 lf:fs.length=nf
 ne:w.heap.size<=gR/\gR<go
 na:va.ownBlock≠some gR/\va.ownBlock≠some go
 nb:vb.ownBlock≠some gR/\vb.ownBlock≠some go
 nab:va.ownBlock=none\/vb.ownBlock=none\/va.ownBlock≠vb.ownBlock
section
variable {K:PC} {w wx wy:World} {gR go:Nat} {wr wr2:Int} {gs:List (Bt×Int)} {fs:List Fu} {va vb:Value} {ng nf:Nat} {ys:List Value} {at2 at3:Nat} {r r3:List Tk}
theorem OD.gr (d:OD K w gR go wr gs fs va ng vb nf ys at2 r wx) (hp:PAt wy (K.mk' wr2) at3 r3) (hg:wx.grownBy wy (some K.g)):OD K w gR go wr2 gs fs va ng vb nf ys at3 r3 wy:=by
 have hl:K.g<w.heap.size:=d.ms.gl
 obtain⟨n1,n2⟩:=d.ne
 exact⟨⟨hp,grownBy_trans d.ms.gr hg,d.ms.gl,d.ms.tl⟩,d.rc.grw hg (by intro e;injection e with e;omega),d.oc.grw hg (by intro e;injection e with e;omega),own_grown d.og hg hl,d.lg,own_grown d.of hg hl,d.ff.keep (fun b hb hlt=>⟨hg.block b hlt (fun e=>by injection e with e;have:=hb.1;omega),hb⟩) hg.size,d.lf,d.ne,d.na,d.nb,d.nab⟩
theorem OD.be (d:OD K w gR go wr gs fs va ng vb nf ys at2 r wx) (hb:Below wx.heap.size wx wy):OD K w gR go wr gs fs va ng vb nf ys at2 r wy:=d.gr (d.ms.be hb).pat (grownBy_of_below hb _)
end
end Go.Proofs.YtpcdinelpfbpfaaDoor
