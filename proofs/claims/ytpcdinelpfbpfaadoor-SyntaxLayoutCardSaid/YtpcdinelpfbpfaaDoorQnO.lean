/-
  PLAIN LAW: what comes of ParseExpr for a text that is right. No walk. (Filled in from a template of this repo.)
-/
import Derived.Test.YtpcdinelpfbpfaaDoorPsE
namespace Go.Proofs.YtpcdinelpfbpfaaDoor
set_option linter.unusedVariables false

def peT (T:Bt):Option PR:=match (scan T).1 with
 | some ts=>Pn 60 .ex ts
 | none=>none
def okT (T:Bt):Option Fo:=match peT T with
 | some (.ok F r)=>if kOf r=0 then some F else none
 | _=>none
theorem pe_ok {T:Bt} {w w':World} {e:Ending} {F:Fo} (h:PEPost T w e w') (hT:T.length<=65536) (hF:okT T=some F) :
  ∃ (h0:Hd) (ar:Fo) (a:Option Addr) (n c:Nat),e=.returned (.tuple #[exv h0 (.slice a n c),.int .i64 0,.int .i64 0])/\F=one1 h0 ar/\ArgsAt w' (fun b=>w.heap.size<=b) ar (.slice a n c):=by
 have hF2:=hF
 unfold okT at hF
 split at hF
 ·rename_i F' r hp
  split at hF
  ·rename_i hk
   injection hF with hF
   subst hF
   have hp2:=hp
   unfold peT at hp
   split at hp
   ·rename_i ts hts
    rcases h.2 with⟨h1,_⟩ | ⟨_,h1,_⟩ | ⟨_,ts2,y,h1,h2⟩
    ·omega
    ·rw [hts] at h1;cases h1
    ·rw [hts] at h1
     injection h1 with h1
     subst h1
     have hy:=h2.out.1.det ⟨60,hp⟩
     subst hy
     rcases h2.out.2 with⟨h0,ar,r2,a,n,c,e1,e2,e3,e4⟩ | ⟨r2,e1,e2⟩
     ·injection e1 with e1 _
      exact⟨h0,ar,a,n,c,e4,e1,e3⟩
     ·rcases e1 with⟨F2,e1,e3⟩ | e1
      ·injection e1 with _ e1
       subst e1
       exact absurd hk e3
      ·cases e1
   ·cases hp
  ·cases hF
 ·cases hF
end Go.Proofs.YtpcdinelpfbpfaaDoor
