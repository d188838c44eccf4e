/-
  WORDS, PLAIN LAWS and WALKS (Shr), pressed. (Filled in from templates of this repo.)
-/
import Derived.Shelf.Strings.Repeat
import Derived.Shelf.Slices.Equal
import Derived.Shelf.Slices.Empties2
import Derived.Test.YtldgghnjminhiaaGreatDoorG1
namespace Go.Proofs
open Go.Shelf
set_option linter.unusedVariables false
set_option linter.unusedSimpArgs false
set_option maxRecDepth 100000
set_option maxHeartbeats 16000000
def Tryz.lays105_ren:Go.Shelf.Ren:=⟨fun|105=>130|212=>160|99=>161|165=>78|166=>42|170=>162|169=>46|263=>180|264=>181|206=>182|240=>76|241=>129|276=>127|277=>159|n=>n,fun|9=>9|3=>3|4=>4|20=>20|0=>0|46=>199|109=>200|5=>5|72=>76|76=>81|51=>217|146=>221|53=>193|148=>223|70=>74|37=>22|75=>80|127=>135|164=>176|80=>45|n=>n,fun|n=>n⟩
theorem Tryz.lays105:Go.Proofs.Lays.n105 Tryz.prog Tryz.lays105_ren:={
  mixed:=by kernel_rfl
  f99:=Tryz.func161.trans (congrArg some (by kernel_rfl))
  f105:=Tryz.func130.trans (congrArg some (by kernel_rfl))
  f165:=Tryz.func78.trans (congrArg some (by kernel_rfl))
  f166:=Tryz.func42.trans (congrArg some (by kernel_rfl))
  f169:=Tryz.func46.trans (congrArg some (by kernel_rfl))
  f170:=Tryz.func162.trans (congrArg some (by kernel_rfl))
  f206:=Tryz.func182.trans (congrArg some (by kernel_rfl))
  f212:=Tryz.func160.trans (congrArg some (by kernel_rfl))
  f240:=Tryz.func76.trans (congrArg some (by kernel_rfl))
  f241:=Tryz.func129.trans (congrArg some (by kernel_rfl))
  f263:=Tryz.func180.trans (congrArg some (by kernel_rfl))
  f264:=Tryz.func181.trans (congrArg some (by kernel_rfl))
  f276:=Tryz.func127.trans (congrArg some (by kernel_rfl))
  f277:=Tryz.func159.trans (congrArg some (by kernel_rfl))
  t0:=Tryz.underlying0
  a0:=Tryz.isAgg0
  z0:=Tryz.sizeOf0
  v0:=Tryz.zeroValue0
  t3:=Tryz.underlying3
  a3:=Tryz.isAgg3
  z3:=Tryz.sizeOf3
  v3:=Tryz.zeroValue3
  t4:=Tryz.underlying4
  a4:=Tryz.isAgg4
  z4:=Tryz.sizeOf4
  v4:=Tryz.zeroValue4
  t5:=Tryz.underlying5
  a5:=Tryz.isAgg5
  z5:=Tryz.sizeOf5
  v5:=Tryz.zeroValue5
  t9:=Tryz.underlying9
  a9:=Tryz.isAgg9
  z9:=Tryz.sizeOf9
  v9:=Tryz.zeroValue9
  t20:=Tryz.underlying20
  a20:=Tryz.isAgg20
  z20:=Tryz.sizeOf20
  v20:=Tryz.zeroValue20
  t37:=Tryz.underlying22
  a37:=Tryz.isAgg22
  z37:=Tryz.sizeOf22
  v37:=Tryz.zeroValue22
  t46:=Tryz.underlying199
  a46:=Tryz.isAgg199
  z46:=Tryz.sizeOf199
  v46:=Tryz.zeroValue199
  t51:=Tryz.underlying217
  a51:=Tryz.isAgg217
  z51:=Tryz.sizeOf217
  v51:=Tryz.zeroValue217
  t53:=Tryz.underlying193
  a53:=Tryz.isAgg193
  z53:=Tryz.sizeOf193
  v53:=Tryz.zeroValue193
  t70:=Tryz.underlying74
  a70:=Tryz.isAgg74
  z70:=Tryz.sizeOf74
  v70:=Tryz.zeroValue74
  t72:=Tryz.underlying76
  a72:=Tryz.isAgg76
  z72:=Tryz.sizeOf76
  v72:=Tryz.zeroValue76
  t75:=Tryz.underlying80
  a75:=Tryz.isAgg80
  z75:=Tryz.sizeOf80
  v75:=Tryz.zeroValue80
  t76:=Tryz.underlying81
  a76:=Tryz.isAgg81
  z76:=Tryz.sizeOf81
  v76:=Tryz.zeroValue81
  t109:=Tryz.underlying200
  a109:=Tryz.isAgg200
  z109:=Tryz.sizeOf200
  v109:=Tryz.zeroValue200
  t127:=Tryz.underlying135
  a127:=Tryz.isAgg135
  z127:=Tryz.sizeOf135
  v127:=Tryz.zeroValue135
  t146:=Tryz.underlying221
  a146:=Tryz.isAgg221
  z146:=Tryz.sizeOf221
  v146:=Tryz.zeroValue221
  t148:=Tryz.underlying223
  a148:=Tryz.isAgg223
  z148:=Tryz.sizeOf223
  v148:=Tryz.zeroValue223
  t164:=Tryz.underlying176
  a164:=Tryz.isAgg176
  z164:=Tryz.sizeOf176
  v164:=Tryz.zeroValue176 }
theorem Tryz.Builder_Extra_105:Builder.Extra Tryz.prog Tryz.lays105_ren:={
  sizeBuilder:=by kernel_rfl
  liesBuilder:=by kernel_rfl
  t5:=Tryz.underlying5
  a5:=Tryz.isAgg5
  z5:=Tryz.sizeOf5
  v5:=Tryz.zeroValue5
  infoByte:=by kernel_rfl
  cellsByte:=by kernel_rfl
  sizeByte:=by kernel_rfl
  neB5:=by decide }
open Go.RowKit Go.Lib in
theorem Tryz.strings_Repeat (s:ByteArray) (c:Nat) (w:World) (hc:c<=9223372036854775807) (hlen:s.size*c<=140737488355328) :
    Calls Tryz.prog 130 #[.string s,.int .i64 c] w fun e w'=>e=.returned (.string ⟨(Lib.repeatL s.data.toList c).toArray⟩)/\Below w.heap.size w w':=Any.strings_Repeat Tryz.lays105 Tryz.Builder_Extra_105 s c w hc hlen
def Tryz.lays193_ren:Go.Shelf.Ren:=⟨fun|193=>113|n=>n,fun|31=>42|9=>9|4=>4|3=>3|0=>0|n=>n,fun|n=>n⟩
theorem Tryz.lays193:Go.Proofs.Lays.n193 Tryz.prog Tryz.lays193_ren:={
  mixed:=by kernel_rfl
  f193:=Tryz.func113.trans (congrArg some (by kernel_rfl))
  t0:=Tryz.underlying0
  a0:=Tryz.isAgg0
  z0:=Tryz.sizeOf0
  v0:=Tryz.zeroValue0
  t3:=Tryz.underlying3
  a3:=Tryz.isAgg3
  z3:=Tryz.sizeOf3
  v3:=Tryz.zeroValue3
  t4:=Tryz.underlying4
  a4:=Tryz.isAgg4
  z4:=Tryz.sizeOf4
  v4:=Tryz.zeroValue4
  t9:=Tryz.underlying9
  a9:=Tryz.isAgg9
  z9:=Tryz.sizeOf9
  v9:=Tryz.zeroValue9
  t31:=Tryz.underlying42
  a31:=Tryz.isAgg42
  z31:=Tryz.sizeOf42
  v31:=Tryz.zeroValue42 }
open Go.RowKit Go.Lib in
theorem Tryz.slices_Equal_string (b1 o1 n c b2 o2 m d:Nat) (xs ys:List ByteArray) (w:World) (hx:n<=xs.length) (hy:m<=ys.length) (hbig:n<=9223372036854775807) (hbig2:m<=9223372036854775807) (hc1:∀ j,j<xs.length->w.cell? ⟨b1,o1+j,none⟩=some (.string (xs.getD j ByteArray.empty))) (hc2:∀ j,j<ys.length->w.cell? ⟨b2,o2+j,none⟩=some (.string (ys.getD j ByteArray.empty))) :
    Calls Tryz.prog 113 #[.slice (some ⟨b1,o1,none⟩) n c,.slice (some ⟨b2,o2,none⟩) m d] w fun e w'=>e=.returned (.bool (decide (xs.take n=ys.take m)))/\∃ q,w'=w.drewN q:=Any.slices_Equal_string Tryz.lays193 b1 o1 n c b2 o2 m d xs ys w hx hy hbig hbig2 hc1 hc2
open Go.RowKit Go.Lib in
theorem Tryz.slices_Equal_string_empty (a1 a2:Option Addr) (c m d:Nat) (w:World) (hbig2:m<=9223372036854775807) :
    Calls Tryz.prog 113 #[.slice a1 0 c,.slice a2 m d] w fun e w'=>e=.returned (.bool (decide (m=0)))/\w'=w:=Any.slices_Equal_string_empty Tryz.lays193 a1 a2 c m d w hbig2
open Go.RowKit Go.Lib in
theorem Tryz.slices_Equal_string_lens (a1 a2:Option Addr) (n c m d:Nat) (w:World) (hnm:n≠m) :
    Calls Tryz.prog 113 #[.slice a1 n c,.slice a2 m d] w fun e w'=>e=.returned (.bool false)/\w'=w:=Any.slices_Equal_string_lens Tryz.lays193 a1 a2 n c m d w hnm
end Go.Proofs
