/-
  PLAIN LAWS for SyntaxLayout: the answer of Parse for a text of right tokens; a text with other blanks grows. No walk. (Filled in from a template of this repo.)
-/
import Derived.Test.YtpcdinelpfbpfaaDoorSpL
import Derived.Test.YtpcdinelpfbpfaaDoorPqY
import Derived.Test.YtpcdinelpfbpfaaDoorQuE
namespace Go.Proofs.YtpcdinelpfbpfaaDoor
open Go.ChangeShapes Go.WideShapes Go.ChangeAt Go.RowKit
set_option linter.unusedVariables false
set_option linter.unusedSimpArgs false

theorem pa_ok {T:Bt} {w w':World} {e:Ending} (h:PaPost T w e w') (hT:T.length<=65536) {gs:List (Bt×Int)} (hg : ∀ x∈gs,0<=x.2/\x.2<=5) {Fs:List Fn} (hl : ∀ F∈Fs,F.bd.wf)
  {ys:List Tk} {ln:Int} (hs:scan T=(some (ys++[⟨0,ln,0,[]⟩]),0)) (hu:unl ys=tokP gs Fs) :
  Below w.heap.size w w' /\ ∃ (fs:List Fu) (va vb:Value),e=.returned (.tuple #[sov va vb,.int .i64 0,.int .i64 0])/\SoAt w' (fun _=>True) gs fs va vb/\eqFs false fs (Fs.map fnU)=true:=by
 refine⟨h.1,?_⟩
 rcases h.2 with⟨h1,_⟩ | ⟨_,h1,_⟩ | ⟨_,ts,y,h1,h2⟩
 ·omega
 ·rw [hs] at h1;cases h1
 ·rw [hs] at h1
  injection h1 with h1
  subst h1
  obtain⟨fs,r,hso,heq⟩:=So_back gs hg Fs hl hu (ln:=ln)
  have hy:=h2.out.1.det hso
  subst hy
  rcases h2.out.2 with⟨gs2,fs2,wr,r2,va,vb,e1,e2,e3,e4⟩ | ⟨gs2,fs2,wr,r2,e1,e2,e3⟩ | ⟨r2,e1,e2⟩
  ·injection e1 with e5 e6 _ _
   subst e5 e6
   exact⟨fs,va,vb,e4,e3.keep (fun b _ _=>⟨rfl,trivial⟩) (Nat.le_refl _),heq⟩
  ·injection e1 with _ _ e5 _
   subst e5
   exact absurd e2 (by omega)
  ·cases e1
theorem SrcIn.bd {w:World} {gs:List (Bt×Int)} {fs:List Fr} {Fs:List Fn} {aa ab:Option Addr} {ca cb:Nat} (h:SrcIn w gs fs Fs aa ca ab cb):(∀ x∈gs,0<=x.2/\x.2<=5) /\ ∀ F∈Fs,F.bd.wf :=
 ⟨fun x hx=>(h.gok x hx).2,fun F hF=>(h.fn F hF).2.2.1⟩
theorem so_eq {gs:List (Bt×Int)} {fs fs2:List Fu} {Fs:List Fn} (h:eqFs false fs (Fs.map fnU)=true) (k:eqFs false fs2 (Fs.map fnU)=true):eqSo false gs fs gs fs2=true:=by
 unfold eqSo
 rw [eqFs_trans h (eqFs_symm k)]
 simp
theorem Sp.blank {T S:Bt} {i:Nat} {b:UInt8} (h:Sp (T.take i) S) (hb:T[i]?=some b) (hbl:bl b) (k:Nat):Sp (T.take (i+1)) (S++blk k):=by
 rw [List.take_add_one,hb]
 have:Sp [b] (blk k++[]):=.gap k hbl .nil
 rw [List.append_nil] at this
 exact h.app this
theorem Sp.byte {T S:Bt} {i:Nat} {b:UInt8} (h:Sp (T.take i) S) (hb:T[i]?=some b) (hbl : ¬ bl b):Sp (T.take (i+1)) (S++[b]):=by
 rw [List.take_add_one,hb]
 exact h.app (.ch hbl .nil)
theorem wt_take (T:Bt) (i:Nat):wt (T.take i)<=wt T:=by
 have:=wt_app (T.take i) (T.drop i)
 rw [List.take_append_drop] at this
 omega
def Txs (w:World) (g:Nat) (l:List Bt):Prop:=g<w.heap.size /\ ∀ j x,l[j]?=some x->w.cell? ⟨g,j,none⟩=some (.string (st x))
theorem Txs.gr {w w':World} {g k:Nat} {l:List Bt} (h:Txs w g l) (hg:w.grownBy w' (some k)) (hn:g≠k):Txs w' g l:=⟨by have:=hg.size;have:=h.1;omega,fun j x hj=>(World.cell?_of_block (a:=⟨g,j,none⟩) (hg.block g h.1 (fun e=>by injection e with e;exact hn e))).trans (h.2 j x hj)⟩
theorem Txs.new (w:World) (l:List Bt) (t:TypeId):Txs (w.alloc (.cells (l.map (fun x=>Value.string (st x))).toArray t)) w.heap.size l:=⟨by simp,fun j x hj=>cell_mk w _ t rfl (by simp [hj])⟩
def bks:List Bt:=[blk 0,blk 1,blk 2]
theorem byte_cut {T:Bt} {i:Nat} {b:UInt8} (h:T[i]?=some b):(st T).extract i (i+1)=st [b]:=by
 rw [st_ext]
 have e:(st T).data.toList=T:=by simp
 rw [e,List.take_add_one,h]
 have hi:=(List.getElem?_eq_some_iff.1 h).1
 have hl:(T.take i).length=i:=by rw [List.length_take];omega
 have:((T.take i)++[b]).drop i=[b]:=by
  have h2:=List.drop_left (l₁:=T.take i) (l₂:=[b])
  rw [hl] at h2
  exact h2
 rw [show (some b).toList=[b] from rfl,this]
theorem u8_bounds {z:Int} (h:(Lit.int .u8 z).wf=true):0<=z/\z<=255:=by
 have h:(decide (IntKind.u8.min<=z)&&decide (z<=IntKind.u8.max))=true:=h
 rw [Bool.and_eq_true,decide_eq_true_iff,decide_eq_true_iff] at h
 have e1:IntKind.u8.min=0:=by decide
 have e2:IntKind.u8.max=255:=by decide
 omega
theorem Lo.new (w:World) (va vb:Value):Lo (w.alloc (.cells #[va,vb] 32)) w.heap.size va vb:=heap_alloc_new w _
theorem SoAt.be {w wx:World} {P:Nat->Prop} {gs:List (Bt×Int)} {fs:List Fu} {va vb:Value} (h:SoAt w P gs fs va vb) (hb:Below w.heap.size w wx):SoAt wx P gs fs va vb:=h.keep (fun b hP hlt=>⟨hb.block b hlt,hP⟩) hb.size
end Go.Proofs.YtpcdinelpfbpfaaDoor
