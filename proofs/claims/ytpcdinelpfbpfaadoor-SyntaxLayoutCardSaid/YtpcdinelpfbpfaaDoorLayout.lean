/-
  The law SyntaxLayout of chapter 4 holds of the given program at every input that can be read (the card's tied claim).
-/
import Derived.Test.YtpcdinelpfbpfaaDoorSyA
import Derived.Test.YtpcdinelpfbpfaaDoorSyM
import Derived.Test.YtpcdinelpfbpfaaDoorLaidU
import Derived.ChangeMaps5
import Derived.Test.YtpcdinelpfbpfaaDoorTie
import Derived.Test.YtpcdinelpfbpfaaDoorCards
namespace Go.Proofs.YtpcdinelpfbpfaaDoor.syntaxLayout
open Go.ChangeShapes Go.WideShapes Go.ChangeAt Go.RowKit
set_option linter.unusedVariables false

set_option linter.unusedVariables false
set_option linter.unusedSimpArgs false

set_option maxRecDepth 100000 in
set_option maxHeartbeats 8000000 in
theorem walk (a0:Option Addr) (len0 cap0:Nat) (z0:List Int) (a1:Int) (w:World) (w0:InInts .u8 w a0 len0 cap0 z0) (w1:(Lit.int .u8 a1).wf=true) (hw:Lad w) :
  Calls Tryd.prog 3 #[.slice a0 len0 cap0,.int .u8 a1] w fun e w'=>e=.returned (.bool true)/\Below w.heap.size w w':=by
 obtain⟨c0,c1⟩:=u8_bounds w1
 obtain⟨n1,rfl⟩:=Int.eq_ofNat_of_zero_le c0
 have HI:=Lib.hid w0
 have HW:=Lib.hid hw
 have HN1:=Lib.hid c1
 clear w0 hw w1 c0 c1
 go_enter Tryd.func3,Tryd.ntmps3
 go_wp2_with fail
 refine(awake4_any w HW.out).mono ?_
 rintro e w2 ⟨rfl,hb2⟩
 have HB2:=Lib.hid hb2
 have HI2:=Lib.hid (HI.out.below hb2)
 clear hb2
 go_wp2_with fail
 refine(New_any a0 len0 cap0 z0 400 (by omega) (by omega) _ HI2.out).mono ?_
 rintro e w3 ⟨gc,rfl,hgc,hcod,hb3⟩
 have HGC:Hid (w.heap.size<=gc):=Lib.hid (by have:=HB2.out.size;omega)
 have HB3:=Lib.hid (HB2.out.trans (hb3.mono HB2.out.size))
 have HC3:=Lib.hid hcod
 clear hgc hcod hb3 HI2
 go_wp2_with fail
 refine(Text_any gc _ HC3.out).mono ?_
 rintro e w4 ⟨wx,gs,fs,Fs,aa,ca,ab,cb,rfl,hc4,hg4,hs4⟩
 have HS:=Lib.hid hs4
 have hwt:=hs4.wt
 have hTl:=hs4.len
 obtain⟨T,hT⟩ : ∃ T,fmtP gs Fs=T:=⟨_,rfl⟩
 rw [hT] at hTl hwt ⊢
 have HT:=Lib.hid hT
 have HWT:=Lib.hid hwt
 have HTL:=Lib.hid hTl
 have HC4:=Lib.hid hc4
 have HB4:=Lib.hid (below_grown1 HB3.out hg4 HB3.out.size HGC.out)
 clear hT hs4 hc4 hg4 hwt hTl
 go_upto_block 0 with fail
 go_wp2_with fail
 go_loopw [7,8] (fun v7 v8 wr => ∃ (S:Bt) (i:Nat),v7=.string (st S)/\v8=.int .i64 (i:Int)/\i<=T.length/\Hid (Sp (T.take i) S/\Below w.heap.size w wr/\Cod wr gc)) (fun _ v8 _=>T.length - (intOf v8).toNat)
 case atStart=>exact⟨[],0,rfl,rfl,by omega,Lib.hid ⟨by rw [List.take_zero];exact .nil,HB4.out,HC4.out⟩⟩
 case round =>
  rename World=>wa
  obtain⟨S,i,rfl,rfl,hi,HR⟩:=hrel
  have hTl:T.length<=37000:=HTL.out
  have hSl:S.length<=37500:=by have h1:=HR.out.1.len;have h2:=wt_take T i;have:=HWT.out;omega
  have hst:=st_app
  by_cases hlt:i<T.length
  ·obtain⟨b,hb⟩ : ∃ b,T[i]?=some b:=⟨T[i],List.getElem?_eq_getElem hlt⟩
   have hbi:T[i]=b:=by rw [List.getElem?_eq_getElem hlt] at hb;injection hb
   have hlt2:(i:Int)<(T.length:Int):=by omega
   have dlt:decide ((i:Int)<(T.length:Int))=true:=decide_eq_true hlt2
   have hcut:=byte_cut hb
   have hwi:IntKind.i64.wrap ((i:Int)+1)=(i:Int)+1:=by rw [IntKind.wrap_i64];omega
   have HB:=Lib.hid hb
   have hend : ∀ (S2:Bt) (W:World),Sp (T.take (i+1)) S2->Below w.heap.size w W->Cod W gc -> ∃ (S_1:Bt) (i_1:Nat),Value.string (st S2)=.string (st S_1)/\Value.int .i64 ((i:Int)+1)=.int .i64 (i_1:Int)/\i_1<=T.length/\Hid (Sp (T.take i_1) S_1/\Below w.heap.size w W/\Cod W gc) :=
    fun S2 W h1 h2 h3=>⟨S2,i+1,rfl,by go_num,by omega,Lib.hid ⟨h1,h2,h3⟩⟩
   have HEND:=Lib.hid hend
   clear hend hb
   have hsz:i<(st T).size:=hlt
   by_cases hbl:bl b
   ·have hor:(b.toNat:Int)=32 \/ ¬ (b.toNat:Int)=32/\(b.toNat:Int)=10:=by unfold bl at hbl;omega
    have HBL:=Lib.hid hbl
    have HTX:=Lib.hid (Txs.new wa bks 9)
    have HC:=Lib.hid (HR.out.2.2.below (below_alloc wa (.cells (bks.map (fun x=>Value.string (st x))).toArray 9)) HR.out.2.2.lt)
    have HBA:=Lib.hid (HR.out.2.1.alloc HR.out.2.1.size (.cells (bks.map (fun x=>Value.string (st x))).toArray 9))
    have HNE:Hid (wa.heap.size≠gc):=Lib.hid (by have:=HR.out.2.2.lt;omega)
    clear hbl
    rcases hor with h32 | ⟨h32,h10⟩
    ·have d32:(((st T)[i].toNat:Int)==32)=true:=by show ((T[i].toNat:Int)==32)=true;rw [hbi,beq_iff_eq];exact h32
     clear h32 hbi
     go_wp2_with fail
     refine(Next_small gc 3 (by omega) _ HC.out).mono ?_
     rintro e wb ⟨z,rfl,z0',z1',hcod,hgb⟩
     have HBB:=Lib.hid (below_grown1 HBA.out hgb HBA.out.size HGC.out)
     have HCB:=Lib.hid hcod
     have HTB:=Lib.hid (HTX.out.gr hgb HNE.out)
     have hz3:z=0\/z=1\/z=2:=by omega
     have c0:wb.cell? ⟨wa.heap.size,0,none⟩=some (.string (st [32])):=HTB.out.2 0 _ rfl
     have c1:wb.cell? ⟨wa.heap.size,1,none⟩=some (.string (st [10])):=HTB.out.2 1 _ rfl
     have c2:wb.cell? ⟨wa.heap.size,2,none⟩=some (.string (st [32,32,35,32,110,111,116,101,10])):=HTB.out.2 2 _ rfl
     have hlg:=HTB.out.1
     clear hcod hgb z0' z1'
     rcases hz3 with rfl | rfl | rfl
     ·go_wp2_with fail
      go_roundw
      case rel=>exact HEND.out (S++blk 0) _ (HR.out.1.blank HB.out HBL.out 0) HBB.out HCB.out
      case measure=>simp [intOf];omega
     ·go_wp2_with fail
      go_roundw
      case rel=>exact HEND.out (S++blk 1) _ (HR.out.1.blank HB.out HBL.out 1) HBB.out HCB.out
      case measure=>simp [intOf];omega
     ·go_wp2_with fail
      go_roundw
      case rel=>exact HEND.out (S++blk 2) _ (HR.out.1.blank HB.out HBL.out 2) HBB.out HCB.out
      case measure=>simp [intOf];omega
    ·have d32:(((st T)[i].toNat:Int)==32)=false:=by show ((T[i].toNat:Int)==32)=false;rw [hbi,beq_eq_false_iff_ne];exact h32
     have d10:(((st T)[i].toNat:Int)==10)=true:=by show ((T[i].toNat:Int)==10)=true;rw [hbi,beq_iff_eq];exact h10
     clear h32 h10 hbi
     go_wp2_with fail
     refine(Next_small gc 3 (by omega) _ HC.out).mono ?_
     rintro e wb ⟨z,rfl,z0',z1',hcod,hgb⟩
     have HBB:=Lib.hid (below_grown1 HBA.out hgb HBA.out.size HGC.out)
     have HCB:=Lib.hid hcod
     have HTB:=Lib.hid (HTX.out.gr hgb HNE.out)
     have hz3:z=0\/z=1\/z=2:=by omega
     have c0:wb.cell? ⟨wa.heap.size,0,none⟩=some (.string (st [32])):=HTB.out.2 0 _ rfl
     have c1:wb.cell? ⟨wa.heap.size,1,none⟩=some (.string (st [10])):=HTB.out.2 1 _ rfl
     have c2:wb.cell? ⟨wa.heap.size,2,none⟩=some (.string (st [32,32,35,32,110,111,116,101,10])):=HTB.out.2 2 _ rfl
     have hlg:=HTB.out.1
     clear hcod hgb z0' z1'
     rcases hz3 with rfl | rfl | rfl
     ·go_wp2_with fail
      go_roundw
      case rel=>exact HEND.out (S++blk 0) _ (HR.out.1.blank HB.out HBL.out 0) HBB.out HCB.out
      case measure=>simp [intOf];omega
     ·go_wp2_with fail
      go_roundw
      case rel=>exact HEND.out (S++blk 1) _ (HR.out.1.blank HB.out HBL.out 1) HBB.out HCB.out
      case measure=>simp [intOf];omega
     ·go_wp2_with fail
      go_roundw
      case rel=>exact HEND.out (S++blk 2) _ (HR.out.1.blank HB.out HBL.out 2) HBB.out HCB.out
      case measure=>simp [intOf];omega
   ·have d32:(((st T)[i].toNat:Int)==32)=false:=by show ((T[i].toNat:Int)==32)=false;rw [hbi,beq_eq_false_iff_ne];unfold bl at hbl;omega
    have d10:(((st T)[i].toNat:Int)==10)=false:=by show ((T[i].toNat:Int)==10)=false;rw [hbi,beq_eq_false_iff_ne];unfold bl at hbl;omega
    have HBL:=Lib.hid hbl
    clear hbi hbl
    go_wp2_with fail
    go_roundw
    case rel =>
     exact HEND.out _ _ (HR.out.1.byte HB.out HBL.out) HR.out.2.1 HR.out.2.2
    case measure=>simp [intOf];omega
  ·obtain rfl:i=T.length:=by omega
   have HSP:Hid (Sp (fmtP gs Fs) S):=Lib.hid (by rw [HT.out];have:=HR.out.1;rw [List.take_length] at this;exact this)
   have HBa:=Lib.hid HR.out.2.1
   have hlt2 : ¬ ((T.length:Int)<(T.length:Int)):=by omega
   have dlt:decide ((T.length:Int)<(T.length:Int))=false:=decide_eq_false hlt2
   have he:((n1:Int) % 5)=((n1 % 5:Nat):Int):=by omega
   have hwn:IntKind.i64.wrap (n1:Int)=(n1:Int):=by have:=HN1.out;rw [IntKind.wrap_i64];omega
   obtain⟨h,hh⟩ : ∃ h,n1 % 5=h:=⟨_,rfl⟩
   have hh5:h<5:=by omega
   rw [hh] at he
   have HH5:=Lib.hid hh5
   clear hh
   go_upto_block 2 with fail
   go_wp2_with fail
   go_loopw [7,9] (fun v7 v9 wr => ∃ m k:Nat,v7=.string (st (List.replicate m 10++S))/\v9=.int .i64 (k:Int)/\m+k=h/\wr=wa) (fun _ v9 _=>(intOf v9).toNat)
   case atStart=>exact⟨0,h,rfl,by go_num,by omega,rfl⟩
   case round =>
    obtain⟨m,k,rfl,rfl,hmk,rfl⟩:=hrel
    have hml:(List.replicate m (10:UInt8)++S).length<=40000:=by rw [List.length_append,List.length_replicate];omega
    by_cases hk:0<k
    ·have dk:decide ((0:Int)<(k:Int))=true:=decide_eq_true (by omega)
     have hwk:IntKind.i64.wrap ((k:Int) - 1)=(k:Int) - 1:=by rw [IntKind.wrap_i64];omega
     go_wp2_with fail
     go_roundw
     case rel=>exact⟨m+1,k - 1,rfl,by go_num,by omega,by first | rfl | trivial⟩
     case measure=>simp [intOf];omega
    ·obtain rfl:k=0:=by omega
     have HML:=Lib.hid hml
     obtain⟨X,hX⟩ : ∃ X,List.replicate m (10:UInt8)++S=X:=⟨_,rfl⟩
     obtain⟨ys2,ln2,hsc2,hun2,_⟩:=HS.out.laid HSP.out m
     obtain⟨ys,ln1,hsc,hun,_,_,_⟩:=HS.out.scan
     obtain⟨gb1,gb2⟩:=HS.out.bd
     rw [HT.out] at hsc
     rw [hX] at hsc2 HML
     (try rw [hX])
     have HA:=Lib.hid (fun (w1 w2:World) (e:Ending) (h:PaPost T w1 e w2)=>pa_ok h (by have:=HTL.out;omega) gb1 gb2 hsc hun)
     have HX:=Lib.hid (fun (w1 w2:World) (e:Ending) (h:PaPost X w1 e w2)=>pa_ok h (by have:=HML.out;omega) gb1 gb2 hsc2 hun2)
     clear hX hsc hsc2 hun hun2 gb1 gb2 hml
     go_wp2_with fail
     refine(Parse_any T (by have:=HTL.out;omega) _ (HW.out.below HBa.out)).mono ?_
     intro e wc hp
     obtain⟨hbc,fs1,va,vb,rfl,hso1,heq1⟩:=HA.out _ _ _ hp
     obtain⟨ga,gcc,fa,fcc,rfl,rfl,_,_⟩:=so_len hso1
     have HX1:=Lib.hid (Lo.new wc (.slice ga gs.length gcc) (.slice fa fs1.length fcc))
     have HB1:=Lib.hid (below_alloc wc (.cells #[.slice ga gs.length gcc,.slice fa fs1.length fcc] 32))
     have HO1:=Lib.hid hso1
     have HE1:=Lib.hid heq1
     have HBC:=Lib.hid (HBa.out.trans (hbc.mono HBa.out.size))
     clear hp hbc hso1 heq1
     go_upto_region 17 with fail
     obtain⟨wd,hwd⟩ : ∃ W,wc.alloc (.cells #[.slice ga gs.length gcc,.slice fa fs1.length fcc] 32)=W:=⟨_,rfl⟩
     obtain⟨g1,hg1⟩ : ∃ x,wc.heap.size=x:=⟨_,rfl⟩
     (try rw [hwd])
     rw [hwd] at HX1 HB1
     have HBD:=Lib.hid (HBC.out.trans (HB1.out.mono HBC.out.size))
     rw [hg1] at HX1
     (try rw [hg1])
     have HO1':=Lib.hid (HO1.out.be HB1.out)
     clear hwd hg1 HO1
     go_wp2_with fail
     refine(Parse_any X (by have:=HML.out;omega) wd (HW.out.below HBD.out)).mono ?_
     intro e2 we hq
     obtain⟨hbe,fs2,va2,vb2,rfl,hso2,heq2⟩:=HX.out _ _ _ hq
     obtain⟨ga2,gc2,fa2,fc2,rfl,rfl,_,_⟩:=so_len hso2
     have HA2:=Lib.hid (below_alloc we (.cells #[.slice ga2 gs.length gc2,.slice fa2 fs2.length fc2] 32))
     have HX2:=Lib.hid ((HX1.out.be hbe).al (.cells #[.slice ga2 gs.length gc2,.slice fa2 fs2.length fc2] 32))
     have HY2:=Lib.hid (Lo.new we (.slice ga2 gs.length gc2) (.slice fa2 fs2.length fc2))
     have HK1:=Lib.hid ((HO1'.out.be hbe).be HA2.out)
     have HK2:=Lib.hid (hso2.be HA2.out)
     have HBE:Hid (Below w.heap.size w (we.alloc (.cells #[.slice ga2 gs.length gc2,.slice fa2 fs2.length fc2] 32))):=Lib.hid (by
      have b3:=HBD.out.trans (hbe.mono HBD.out.size)
      exact b3.alloc b3.size _)
     have HEQ:=Lib.hid (so_eq (gs:=gs) HE1.out heq2)
     clear hq hbe hso2 heq2 HX1 HB1
     go_upto_region 18 with fail
     obtain⟨wf,hwf⟩ : ∃ W,we.alloc (.cells #[.slice ga2 gs.length gc2,.slice fa2 fs2.length fc2] 32)=W:=⟨_,rfl⟩
     obtain⟨g2,hg2⟩ : ∃ x,we.heap.size=x:=⟨_,rfl⟩
     (try rw [hwf])
     rw [hwf] at HX2 HY2 HK1 HK2 HBE
     rw [hg2] at HY2
     (try rw [hg2])
     clear hwf hg2 HA2
     obtain⟨x0,x1⟩:=HX2.out.cells
     obtain⟨y0,y1⟩:=HY2.out.cells
     have hl1:=HX2.out.lt
     have hl2:=HY2.out.lt
     go_wp2_with fail
     refine(PSame_any _ _ gs fs1 gs fs2 (.slice ga gs.length gcc) (.slice fa fs1.length fcc) (.slice ga2 gs.length gc2) (.slice fa2 fs2.length fc2) wf HK1.out HK2.out).mono ?_
     rintro e3 wg ⟨rfl,hbg⟩
     have HBG:=Lib.hid (HBE.out.trans (hbg.mono HBE.out.size))
     clear hbg
     rw [HEQ.out]
     go_wp2_with fail
     go_ret
     exact⟨rfl,HBG.out⟩

/-! ### THE ROW's STEP -/
set_option maxRecDepth 100000 in
theorem lifted (os : Os) (started : os.Started) (H : Type) (enc : TypeId × Value → H) :
    ReturnsInHanded {} Tryd.checked os 3 .any (fun w args => (Rows.syntaxLayoutSpec.pre enc Tryd.prog Tryd.f3 [] false w args ∧ laidMetH Tryd.prog [("math/bits.deBruijn32tab", Rows.laid_math_bits_deBruijn32tab), ("math/bits.deBruijn64tab", Rows.laid_math_bits_deBruijn64tab), ("internal/strconv.uint64pow10", Rows.laid_internal_strconv_uint64pow10), ("strconv.ErrRange", Rows.laid_strconv_ErrRange), ("strconv.ErrSyntax", Rows.laid_strconv_ErrSyntax)] w) ∧ sizedMet enc Tryd.prog Tryd.f3 (OpenSpec.ofChange Rows.syntaxLayoutSpec) false w args)
      (Rows.syntaxLayoutSpec.post enc Tryd.prog Tryd.f3 false true false false) := by
  refine returnsInHanded_of_change_and (C := Tryd.checked) (X := fun w _ => laidMetH Tryd.prog [("math/bits.deBruijn32tab", Rows.laid_math_bits_deBruijn32tab), ("math/bits.deBruijn64tab", Rows.laid_math_bits_deBruijn64tab), ("internal/strconv.uint64pow10", Rows.laid_internal_strconv_uint64pow10), ("strconv.ErrRange", Rows.laid_strconv_ErrRange), ("strconv.ErrSyntax", Rows.laid_strconv_ErrSyntax)] w) (fun _ _ _ hh h => h.of_heap hh) ownLd started (by kernel_rfl) Tryd.func3
    (ChangeSpec.witness_shaped (enc := enc) (C := Tryd.checked) (os := os) (X := fun w _ => laidMetH Tryd.prog [("math/bits.deBruijn32tab", Rows.laid_math_bits_deBruijn32tab), ("math/bits.deBruijn64tab", Rows.laid_math_bits_deBruijn64tab), ("internal/strconv.uint64pow10", Rows.laid_internal_strconv_uint64pow10), ("strconv.ErrRange", Rows.laid_strconv_ErrRange), ("strconv.ErrSyntax", Rows.laid_strconv_ErrSyntax)] w) false (World.doorLaid Tryd.prog 400 os) #[.slice none 0 0, .int .u8 0] 8 rfl (World.shaped_of_RefB (by kernel_rfl) (by kernel_rfl)) (by kernel_rfl) (by kernel_rfl) (by kernel_rfl) (door_met os _)) ?_
  intro W base args ds gs before hval0 hW _ _ hL _
  have hval : ∀ (j : Nat) t v, Tryd.f3.params[j]? = some t → args[j]? = some v → Value.okWide Tryd.prog W .any base t v := hval0
  have hW' := hW
  obtain ⟨p, q, hA0, hV, rfl, hfz, hnd⟩ := hW
  have hA : DataW.TrodAll enc Tryd.prog W 0 (fun _ => true) true Tryd.f3.params.toList args.toList ds p := hA0
  rw [Tryd.params3] at hA hval
  obtain ⟨v0, vs0, d0, ds0, p0, q0, hargs, rfl, rfl, h0, r0⟩ := trodAll_cons hA
  obtain ⟨v1, vs1, d1, ds1, p1, q1, rfl, rfl, rfl, h1, r1⟩ := trodAll_cons r0
  obtain ⟨rfl, rfl, rfl⟩ := trodAll_nil r1
  obtain rfl : args = #[v0, v1] := by cases args; simp_all
  obtain ⟨rfl, rfl⟩ := trodVars_none hV
  have k0 := h0
  have lt0 : ∀ x ∈ p0, x.block < W.heap.size := by obtain ⟨m, hm⟩ := k0; exact DataW.trod_lt m _ _ _ hm
  obtain ⟨a0, len0, cap0, zs0, rfl, w0⟩ := in_ints (k := .u8) Tryd.underlying22 Tryd.underlying5 (by kernel_rfl) (hval 0 22 v0 rfl rfl) h0
  obtain ⟨a1, rfl, rfl, rfl, w1⟩ := open_int Tryd.underlying5 (hval 1 5 v1 rfl rfl) h1
  clear hA0 hval0
  refine (walk a0 len0 cap0 zs0 a1 W w0 w1 (of_laid hL)).mono fun e W' ⟨he, bel⟩ => ?_
  subst he
  exact ⟨_, rfl, _, _, _, [], _, [], hW', trodAll_mk1 (shut_bool Tryd.underlying4 _), (trodAll_cons_mk (Below.trod laidOut (by kernel_rfl) (of_decide_eq_true (by kernel_rfl)) k0 bel lt0) (trodAll_cons_mk (shut_int Tryd.underlying5 w1) trodAll_mk0)), rfl, bel.frame _, fun h => by cases h⟩

theorem over : Rows.SyntaxLayoutSaid :=
  OpenClaim.holds_of_wide 3 Tryd.f3 rfl rfl rfl rfl rfl rfl rfl ⟨rfl, rfl, rfl, rfl, rfl⟩ rfl rfl rfl rfl rfl (by kernel_rfl) Tryd.func3 (by kernel_rfl)
    (of_decide_eq_true (by kernel_rfl)) (by unfold Func.isWrapper; first | (rw [if_pos (by decide +kernel)]; kernel_rfl) | (rw [if_neg (by decide +kernel)]; exact ⟨rfl, rfl⟩))
    (fun os started H enc _ => lifted os started H enc)

/-- the tied card -/
theorem proved : Rows.SyntaxLayoutCardSaid :=
  Claim7.holds_tied_plain_at .later [] [.data, .data, .data, .sentinel, .sentinel] true (true, "a54ef29af9fe8a4a5f733076e61cdf621d78b8507b2e01d44acaeb69b1217f2a") true
    over (fun _ h => by cases h) (by kernel_rfl) (fun _ h => by cases h) syntaxLayout_row_tie rfl ⟨rfl, rfl⟩ (by kernel_rfl) rfl
    (fun f fn hf hfn => by
      obtain rfl : f = 3 := Option.some.inj ((show Tryd.prog.funcNamed "warmpath/warmpathlaw04.SyntaxLayout" = some 3 by kernel_rfl).symm.trans hf) |>.symm
      obtain rfl : fn = Tryd.f3 := (Option.some.inj (Tryd.func3.symm.trans hfn)).symm
      exact ⟨by kernel_rfl, fun j t ht => by
        rw [Tryd.params3] at ht
        have hm : t ∈ [22, 5] := by simpa using Array.mem_of_getElem? ht
        have hall : ([22, 5].all fun u => !Tryd.prog.wantsStandIn u) = true := by kernel_rfl
        exact (show Tryd.prog.wantsStandIn t = false by simpa using List.all_eq_true.1 hall t hm)⟩)
    (by kernel_rfl)
#print axioms proved
end Go.Proofs.YtpcdinelpfbpfaaDoor.syntaxLayout
