/-
  WORDS, PLAIN LAWS and WALKS (Shelf), pressed. (Filled in from templates of this repo.)
-/
import Derived.Shelf.Strings.Builder1
import Derived.Shelf.Strings.Builder2
import Derived.Shelf.Strings.OnBuilder
import Derived.Shelf.Strconv.Atoi
import Derived.Shelf.Strconv.Itoa0
import Derived.Shelf.Strconv.Itoa1
import Derived.Shelf.LaysM
import Derived.Shelf.Strconv.Itoa2
import Derived.Shelf.Strconv.Itoa3
import Derived.Shelf.Strconv.AtoiErrFast
import Derived.Shelf.Strconv.ParseIntEmpty
import Derived.Shelf.Strconv.AtoiFail
import Derived.Shelf.Strconv.Clone
import Derived.Shelf.Strconv.SyntaxError
import Derived.Shelf.LaysC
import Derived.Shelf.Strconv.ToError
import Derived.Shelf.Strconv.Lower
import Derived.Shelf.Strconv.ParseUint10
import Derived.Shelf.Strconv.ParseUint10Empty
import Derived.Shelf.Strconv.ParseUint10Any
import Derived.Shelf.Strconv.ParseInt10
import Derived.Shelf.Strconv.AtoiLong
import Derived.Shelf.Strconv.AtoiInnerAll
import Derived.Shelf.Strconv.RangeError
import Derived.Shelf.Strconv.ToErrorRange
import Derived.Shelf.Strconv.AtoiAll
import Derived.Shelf.Strconv.ErrVarAll
import Derived.Shelf.Bits.Mul64
import Derived.Test.YtldgghnjminhiaaGreatDoorProg
namespace Go.Proofs
open Go.Shelf
set_option linter.unusedVariables false
set_option linter.unusedSimpArgs false
set_option maxRecDepth 100000
set_option maxHeartbeats 16000000
def Tryz.lays156_ren:Go.Shelf.Ren:=⟨fun|156=>44|165=>78|166=>42|169=>46|240=>76|241=>129|276=>127|277=>159|n=>n,fun|31=>42|9=>9|3=>3|4=>4|0=>0|20=>20|72=>76|76=>81|70=>74|37=>22|75=>80|127=>135|164=>176|5=>5|80=>45|n=>n,fun|n=>n⟩
theorem Tryz.lays156:Go.Proofs.Lays.n156 Tryz.prog Tryz.lays156_ren:={
  mixed:=by kernel_rfl
  f156:=Tryz.func44.trans (congrArg some (by kernel_rfl))
  f165:=Tryz.func78.trans (congrArg some (by kernel_rfl))
  f166:=Tryz.func42.trans (congrArg some (by kernel_rfl))
  f169:=Tryz.func46.trans (congrArg some (by kernel_rfl))
  f240:=Tryz.func76.trans (congrArg some (by kernel_rfl))
  f241:=Tryz.func129.trans (congrArg some (by kernel_rfl))
  f276:=Tryz.func127.trans (congrArg some (by kernel_rfl))
  f277:=Tryz.func159.trans (congrArg some (by kernel_rfl))
  t0:=Tryz.underlying0
  a0:=Tryz.isAgg0
  z0:=Tryz.sizeOf0
  v0:=Tryz.zeroValue0
  t3:=Tryz.underlying3
  a3:=Tryz.isAgg3
  z3:=Tryz.sizeOf3
  v3:=Tryz.zeroValue3
  t4:=Tryz.underlying4
  a4:=Tryz.isAgg4
  z4:=Tryz.sizeOf4
  v4:=Tryz.zeroValue4
  t9:=Tryz.underlying9
  a9:=Tryz.isAgg9
  z9:=Tryz.sizeOf9
  v9:=Tryz.zeroValue9
  t20:=Tryz.underlying20
  a20:=Tryz.isAgg20
  z20:=Tryz.sizeOf20
  v20:=Tryz.zeroValue20
  t31:=Tryz.underlying42
  a31:=Tryz.isAgg42
  z31:=Tryz.sizeOf42
  v31:=Tryz.zeroValue42
  t37:=Tryz.underlying22
  a37:=Tryz.isAgg22
  z37:=Tryz.sizeOf22
  v37:=Tryz.zeroValue22
  t70:=Tryz.underlying74
  a70:=Tryz.isAgg74
  z70:=Tryz.sizeOf74
  v70:=Tryz.zeroValue74
  t72:=Tryz.underlying76
  a72:=Tryz.isAgg76
  z72:=Tryz.sizeOf76
  v72:=Tryz.zeroValue76
  t75:=Tryz.underlying80
  a75:=Tryz.isAgg80
  z75:=Tryz.sizeOf80
  v75:=Tryz.zeroValue80
  t76:=Tryz.underlying81
  a76:=Tryz.isAgg81
  z76:=Tryz.sizeOf81
  v76:=Tryz.zeroValue81
  t127:=Tryz.underlying135
  a127:=Tryz.isAgg135
  z127:=Tryz.sizeOf135
  v127:=Tryz.zeroValue135
  t164:=Tryz.underlying176
  a164:=Tryz.isAgg176
  z164:=Tryz.sizeOf176
  v164:=Tryz.zeroValue176 }
theorem Tryz.Builder_Extra_156:Builder.Extra Tryz.prog Tryz.lays156_ren:={
  sizeBuilder:=by kernel_rfl
  liesBuilder:=by kernel_rfl
  t5:=Tryz.underlying5
  a5:=Tryz.isAgg5
  z5:=Tryz.sizeOf5
  v5:=Tryz.zeroValue5
  infoByte:=by kernel_rfl
  cellsByte:=by kernel_rfl
  sizeByte:=by kernel_rfl
  neB5:=by decide }
open Go.RowKit in
theorem Tryz.strings_Join_none (a:Option Addr) (c:Nat) (sep:ByteArray) (w:World) :
    Calls Tryz.prog 44 #[.slice a 0 c,.string sep] w fun e w'=>e=.returned (.string ⟨#[]⟩)/\w'=w:=Any.strings_Join_none Tryz.lays156 Tryz.Builder_Extra_156 a c sep w
open Go.RowKit in
theorem Tryz.strings_Join (bk o c:Nat) (xs:List ByteArray) (sep:ByteArray) (w:World) (hcells:∀ (j:Nat) x,xs[j]?=some x->w.cell? ⟨bk,o+j,none⟩=some (.string x)) (hbk:bk<w.heap.size) (hN:xs.length<=140737488355328) (hcap:xs.length<=c) (hlen:(Lib.join (xs.map (·.data.toList)) sep.data.toList).length<=140737488355328) :
    Calls Tryz.prog 44 #[.slice (some ⟨bk,o,none⟩) xs.length c,.string sep] w fun e w'=>e=.returned (.string ⟨(Lib.join (xs.map (·.data.toList)) sep.data.toList).toArray⟩)/\Below w.heap.size w w':=Any.strings_Join Tryz.lays156 Tryz.Builder_Extra_156 bk o c xs sep w hcells hbk hN hcap hlen
def Tryz.laysM171_ren:Go.Shelf.Ren:=⟨fun|171=>43|243=>77|246=>128|283=>155|284=>156|285=>157|286=>158|129=>176|317=>175|318=>177|319=>178|320=>179|337=>196|338=>197|n=>n,fun|3=>3|9=>9|2=>2|4=>4|171=>192|0=>0|53=>193|37=>22|5=>5|173=>196|212=>216|51=>217|20=>20|213=>218|46=>199|232=>243|233=>244|n=>n,fun|17=>0|18=>4|19=>5|n=>n⟩
theorem Tryz.laysM171:Go.Proofs.LaysM.n171 Tryz.prog Tryz.laysM171_ren:={
  mixed:=by kernel_rfl
  f129:=Tryz.func176.trans (congrArg some (by kernel_rfl))
  f171:=Tryz.func43.trans (congrArg some (by kernel_rfl))
  f243:=Tryz.func77.trans (congrArg some (by kernel_rfl))
  f246:=Tryz.func128.trans (congrArg some (by kernel_rfl))
  f283:=Tryz.func155.trans (congrArg some (by kernel_rfl))
  f284:=Tryz.func156.trans (congrArg some (by kernel_rfl))
  f285:=Tryz.func157.trans (congrArg some (by kernel_rfl))
  f286:=Tryz.func158.trans (congrArg some (by kernel_rfl))
  f317:=Tryz.func175.trans (congrArg some (by kernel_rfl))
  f318:=Tryz.func177.trans (congrArg some (by kernel_rfl))
  f319:=Tryz.func178.trans (congrArg some (by kernel_rfl))
  f320:=Tryz.func179.trans (congrArg some (by kernel_rfl))
  f337:=Tryz.func196.trans (congrArg some (by kernel_rfl))
  f338:=Tryz.func197.trans (congrArg some (by kernel_rfl))
  t0:=Tryz.underlying0
  a0:=Tryz.isAgg0
  z0:=Tryz.sizeOf0
  v0:=Tryz.zeroValue0
  t2:=Tryz.underlying2
  a2:=Tryz.isAgg2
  z2:=Tryz.sizeOf2
  v2:=Tryz.zeroValue2
  t3:=Tryz.underlying3
  a3:=Tryz.isAgg3
  z3:=Tryz.sizeOf3
  v3:=Tryz.zeroValue3
  t4:=Tryz.underlying4
  a4:=Tryz.isAgg4
  z4:=Tryz.sizeOf4
  v4:=Tryz.zeroValue4
  t5:=Tryz.underlying5
  a5:=Tryz.isAgg5
  z5:=Tryz.sizeOf5
  v5:=Tryz.zeroValue5
  t9:=Tryz.underlying9
  a9:=Tryz.isAgg9
  z9:=Tryz.sizeOf9
  v9:=Tryz.zeroValue9
  t20:=Tryz.underlying20
  a20:=Tryz.isAgg20
  z20:=Tryz.sizeOf20
  v20:=Tryz.zeroValue20
  t37:=Tryz.underlying22
  a37:=Tryz.isAgg22
  z37:=Tryz.sizeOf22
  v37:=Tryz.zeroValue22
  t46:=Tryz.underlying199
  a46:=Tryz.isAgg199
  z46:=Tryz.sizeOf199
  v46:=Tryz.zeroValue199
  t51:=Tryz.underlying217
  a51:=Tryz.isAgg217
  z51:=Tryz.sizeOf217
  v51:=Tryz.zeroValue217
  t53:=Tryz.underlying193
  a53:=Tryz.isAgg193
  z53:=Tryz.sizeOf193
  v53:=Tryz.zeroValue193
  t171:=Tryz.underlying192
  a171:=Tryz.isAgg192
  z171:=Tryz.sizeOf192
  v171:=Tryz.zeroValue192
  t173:=Tryz.underlying196
  a173:=Tryz.isAgg196
  z173:=Tryz.sizeOf196
  v173:=Tryz.zeroValue196
  t212:=Tryz.underlying216
  a212:=Tryz.isAgg216
  z212:=Tryz.sizeOf216
  v212:=Tryz.zeroValue216
  t213:=Tryz.underlying218
  a213:=Tryz.isAgg218
  z213:=Tryz.sizeOf218
  t232:=Tryz.underlying243
  a232:=Tryz.isAgg243
  z232:=Tryz.sizeOf243
  v232:=Tryz.zeroValue243
  t233:=Tryz.underlying244
  a233:=Tryz.isAgg244
  z233:=Tryz.sizeOf244
  v233:=Tryz.zeroValue244
  g17:=by kernel_rfl
  g18:=by kernel_rfl
  g19:=by kernel_rfl
  i0:=by kernel_rfl
  i2:=by kernel_rfl
  i3:=by kernel_rfl
  i4:=by kernel_rfl
  i5:=by kernel_rfl
  i9:=by kernel_rfl
  i20:=by kernel_rfl
  i37:=by kernel_rfl
  i46:=by kernel_rfl
  i51:=by kernel_rfl
  i53:=by kernel_rfl
  i171:=by kernel_rfl
  i173:=by kernel_rfl
  i212:=by kernel_rfl
  i232:=by kernel_rfl
  i233:=by kernel_rfl
  m17:=by kernel_rfl
  m18:=by kernel_rfl
  m19:=by kernel_rfl }
open Go.RowKit Go.Sort Go.Lib in
theorem Tryz.strconv_Itoa (n:Int) (h0 : -9223372036854775808<=n) (h1:n<=9223372036854775807) (w:World) (htab:Lib.TabIs Tryz.prog w "internal/strconv.uint64pow10" .u64 Lib.pow10Tab) :
    Calls Tryz.prog 43 #[.int .i64 n] w fun e w'=>e=.returned (.string ⟨(Lib.itoa n).toArray⟩)/\∃ k os,w'=grow (w.drewN k) os:=Any.strconv_Itoa Tryz.laysM171 n h0 h1 w htab
def Tryz.laysC172_ren:Go.Shelf.Ren:=⟨fun|172=>143|244=>167|245=>168|247=>184|279=>185|280=>186|281=>187|282=>188|287=>199|316=>200|171=>43|205=>201|321=>204|322=>205|243=>77|246=>128|283=>155|284=>156|285=>157|286=>158|129=>176|317=>175|318=>177|319=>178|320=>179|337=>196|338=>197|n=>n,fun|9=>9|3=>3|75=>80|76=>81|4=>4|5=>5|167=>225|37=>22|0=>0|85=>226|2=>2|168=>228|53=>193|175=>237|46=>199|210=>241|127=>135|145=>248|143=>246|21=>21|171=>192|173=>196|212=>216|51=>217|20=>20|213=>218|232=>243|233=>244|80=>45|n=>n,fun|15=>2|16=>3|17=>0|18=>4|19=>5|n=>n⟩
theorem Tryz.laysC172:Go.Proofs.LaysC.n172 Tryz.prog Tryz.laysC172_ren:={
  mixed:=by kernel_rfl
  f129:=Tryz.func176.trans (congrArg some (by kernel_rfl))
  f171:=Tryz.func43.trans (congrArg some (by kernel_rfl))
  f172:=Tryz.func143.trans (congrArg some (by kernel_rfl))
  f205:=Tryz.func201.trans (congrArg some (by kernel_rfl))
  f243:=Tryz.func77.trans (congrArg some (by kernel_rfl))
  f244:=Tryz.func167.trans (congrArg some (by kernel_rfl))
  f245:=Tryz.func168.trans (congrArg some (by kernel_rfl))
  f246:=Tryz.func128.trans (congrArg some (by kernel_rfl))
  f247:=Tryz.func184.trans (congrArg some (by kernel_rfl))
  f279:=Tryz.func185.trans (congrArg some (by kernel_rfl))
  f280:=Tryz.func186.trans (congrArg some (by kernel_rfl))
  f281:=Tryz.func187.trans (congrArg some (by kernel_rfl))
  f282:=Tryz.func188.trans (congrArg some (by kernel_rfl))
  f283:=Tryz.func155.trans (congrArg some (by kernel_rfl))
  f284:=Tryz.func156.trans (congrArg some (by kernel_rfl))
  f285:=Tryz.func157.trans (congrArg some (by kernel_rfl))
  f286:=Tryz.func158.trans (congrArg some (by kernel_rfl))
  f287:=Tryz.func199.trans (congrArg some (by kernel_rfl))
  f316:=Tryz.func200.trans (congrArg some (by kernel_rfl))
  f317:=Tryz.func175.trans (congrArg some (by kernel_rfl))
  f318:=Tryz.func177.trans (congrArg some (by kernel_rfl))
  f319:=Tryz.func178.trans (congrArg some (by kernel_rfl))
  f320:=Tryz.func179.trans (congrArg some (by kernel_rfl))
  f321:=Tryz.func204.trans (congrArg some (by kernel_rfl))
  f322:=Tryz.func205.trans (congrArg some (by kernel_rfl))
  f337:=Tryz.func196.trans (congrArg some (by kernel_rfl))
  f338:=Tryz.func197.trans (congrArg some (by kernel_rfl))
  t0:=Tryz.underlying0
  a0:=Tryz.isAgg0
  z0:=Tryz.sizeOf0
  v0:=Tryz.zeroValue0
  t2:=Tryz.underlying2
  a2:=Tryz.isAgg2
  z2:=Tryz.sizeOf2
  v2:=Tryz.zeroValue2
  t3:=Tryz.underlying3
  a3:=Tryz.isAgg3
  z3:=Tryz.sizeOf3
  v3:=Tryz.zeroValue3
  t4:=Tryz.underlying4
  a4:=Tryz.isAgg4
  z4:=Tryz.sizeOf4
  v4:=Tryz.zeroValue4
  t5:=Tryz.underlying5
  a5:=Tryz.isAgg5
  z5:=Tryz.sizeOf5
  v5:=Tryz.zeroValue5
  t9:=Tryz.underlying9
  a9:=Tryz.isAgg9
  z9:=Tryz.sizeOf9
  v9:=Tryz.zeroValue9
  t20:=Tryz.underlying20
  a20:=Tryz.isAgg20
  z20:=Tryz.sizeOf20
  v20:=Tryz.zeroValue20
  t21:=Tryz.underlying21
  a21:=Tryz.isAgg21
  z21:=Tryz.sizeOf21
  v21:=Tryz.zeroValue21
  t37:=Tryz.underlying22
  a37:=Tryz.isAgg22
  z37:=Tryz.sizeOf22
  v37:=Tryz.zeroValue22
  t46:=Tryz.underlying199
  a46:=Tryz.isAgg199
  z46:=Tryz.sizeOf199
  v46:=Tryz.zeroValue199
  t51:=Tryz.underlying217
  a51:=Tryz.isAgg217
  z51:=Tryz.sizeOf217
  v51:=Tryz.zeroValue217
  t53:=Tryz.underlying193
  a53:=Tryz.isAgg193
  z53:=Tryz.sizeOf193
  v53:=Tryz.zeroValue193
  t75:=Tryz.underlying80
  a75:=Tryz.isAgg80
  z75:=Tryz.sizeOf80
  v75:=Tryz.zeroValue80
  t76:=Tryz.underlying81
  a76:=Tryz.isAgg81
  z76:=Tryz.sizeOf81
  v76:=Tryz.zeroValue81
  t85:=Tryz.underlying226
  a85:=Tryz.isAgg226
  z85:=Tryz.sizeOf226
  v85:=Tryz.zeroValue226
  t127:=Tryz.underlying135
  a127:=Tryz.isAgg135
  z127:=Tryz.sizeOf135
  v127:=Tryz.zeroValue135
  t143:=Tryz.underlying246
  a143:=Tryz.isAgg246
  z143:=Tryz.sizeOf246
  v143:=Tryz.zeroValue246
  t145:=Tryz.underlying248
  a145:=Tryz.isAgg248
  z145:=Tryz.sizeOf248
  v145:=Tryz.zeroValue248
  t167:=Tryz.underlying225
  a167:=Tryz.isAgg225
  z167:=Tryz.sizeOf225
  v167:=Tryz.zeroValue225
  t168:=Tryz.underlying228
  a168:=Tryz.isAgg228
  z168:=Tryz.sizeOf228
  v168:=Tryz.zeroValue228
  t171:=Tryz.underlying192
  a171:=Tryz.isAgg192
  z171:=Tryz.sizeOf192
  v171:=Tryz.zeroValue192
  t173:=Tryz.underlying196
  a173:=Tryz.isAgg196
  z173:=Tryz.sizeOf196
  v173:=Tryz.zeroValue196
  t175:=Tryz.underlying237
  a175:=Tryz.isAgg237
  z175:=Tryz.sizeOf237
  v175:=Tryz.zeroValue237
  t210:=Tryz.underlying241
  a210:=Tryz.isAgg241
  z210:=Tryz.sizeOf241
  v210:=Tryz.zeroValue241
  t212:=Tryz.underlying216
  a212:=Tryz.isAgg216
  z212:=Tryz.sizeOf216
  v212:=Tryz.zeroValue216
  t213:=Tryz.underlying218
  a213:=Tryz.isAgg218
  z213:=Tryz.sizeOf218
  t232:=Tryz.underlying243
  a232:=Tryz.isAgg243
  z232:=Tryz.sizeOf243
  v232:=Tryz.zeroValue243
  t233:=Tryz.underlying244
  a233:=Tryz.isAgg244
  z233:=Tryz.sizeOf244
  v233:=Tryz.zeroValue244
  g15:=by kernel_rfl
  g16:=by kernel_rfl
  g17:=by kernel_rfl
  g18:=by kernel_rfl
  g19:=by kernel_rfl
  t80:=Tryz.underlying45
  a80:=Tryz.isAgg45
  z80:=Tryz.sizeOf45
  v80:=Tryz.zeroValue45
  i0:=by kernel_rfl
  i2:=by kernel_rfl
  i3:=by kernel_rfl
  i4:=by kernel_rfl
  i5:=by kernel_rfl
  i9:=by kernel_rfl
  i20:=by kernel_rfl
  i21:=by kernel_rfl
  i37:=by kernel_rfl
  i46:=by kernel_rfl
  i51:=by kernel_rfl
  i53:=by kernel_rfl
  i75:=by kernel_rfl
  i76:=by kernel_rfl
  i80:=by kernel_rfl
  i85:=by kernel_rfl
  i127:=by kernel_rfl
  i143:=by kernel_rfl
  i145:=by kernel_rfl
  i167:=by kernel_rfl
  i168:=by kernel_rfl
  i171:=by kernel_rfl
  i173:=by kernel_rfl
  i175:=by kernel_rfl
  i210:=by kernel_rfl
  i212:=by kernel_rfl
  i232:=by kernel_rfl
  i233:=by kernel_rfl
  m15:=by kernel_rfl
  m16:=by kernel_rfl
  m17:=by kernel_rfl
  m18:=by kernel_rfl
  m19:=by kernel_rfl
  c0:=by kernel_rfl
  c2:=by kernel_rfl
  c3:=by kernel_rfl
  c4:=by kernel_rfl
  c5:=by kernel_rfl
  c9:=by kernel_rfl
  c20:=by kernel_rfl
  c21:=by kernel_rfl
  c37:=by kernel_rfl
  c46:=by kernel_rfl
  c51:=by kernel_rfl
  c53:=by kernel_rfl
  c75:=by kernel_rfl
  c76:=by kernel_rfl
  c80:=by kernel_rfl
  c85:=by kernel_rfl
  c127:=by kernel_rfl
  c143:=by kernel_rfl
  c145:=by kernel_rfl
  c167:=by kernel_rfl
  c168:=by kernel_rfl
  c171:=by kernel_rfl
  c173:=by kernel_rfl
  c175:=by kernel_rfl
  c210:=by kernel_rfl
  c212:=by kernel_rfl
  c213:=by kernel_rfl
  c232:=by kernel_rfl
  c233:=by kernel_rfl }
open Go.RowKit in
theorem Tryz.strconv_Atoi_ok (s:ByteArray) (hmax:s.size<=9223372036854775806) (v:Int) (h:Lib.atoiAll s.data.toList=.ok v) (w:World) :
    Calls Tryz.prog 143 #[.string s] w fun e w'=>e=.returned (.tuple #[.int .i64 v,.nilIface])/\(w'=w\/∃ t,w'=Lib.bytesWorld w 5 t):=Any.strconv_Atoi_ok Tryz.laysC172 s hmax v h w
open Go.RowKit in
theorem Tryz.strconv_Atoi_bad_var (s:ByteArray) (hlim:s.size<=281474976710656) (h:∀ v,Lib.atoiAll s.data.toList≠.ok v) (h2:Lib.atoiAll s.data.toList≠.range) (tp:TypeId) (p:Value) (w:World) (hvar:w.var? Tryz.prog "strconv.ErrSyntax" = some #[.iface tp p]) :
    Calls Tryz.prog 143 #[.string s] w fun e w'=>∃ N,e=.returned (.tuple #[.int .i64 0,.iface 228 (.pointer (some ⟨N,0,none⟩))])/\w.heap.size<=N/\w'.heap[N]?=some (.cells #[.string ⟨#[65,116,111,105]⟩,.string s,.iface tp p] 241 (0,0))/\Below w.heap.size w w':=by
  cases e:Lib.atoiAll s.data.toList
  · exact absurd e (h _)
  · exact Any.strconv_Atoi_syntax_var Tryz.laysC172 s hlim e tp p w hvar
  · exact absurd e h2
open Go.RowKit in
theorem Tryz.strconv_Atoi_range_var (s:ByteArray) (hlim:s.size<=281474976710656) (h:Lib.atoiAll s.data.toList=.range) (tp:TypeId) (p:Value) (w:World) (hvar:w.var? Tryz.prog "strconv.ErrRange" = some #[.iface tp p]) :
    Calls Tryz.prog 143 #[.string s] w fun e w'=>∃ N,e=.returned (.tuple #[.int .i64 (Lib.atoiSat s.data.toList),.iface 228 (.pointer (some ⟨N,0,none⟩))])/\w.heap.size<=N/\w'.heap[N]?=some (.cells #[.string ⟨#[65,116,111,105]⟩,.string s,.iface tp p] 241 (0,0))/\Below w.heap.size w w':=Any.strconv_Atoi_range_var Tryz.laysC172 s hlim h tp p w hvar
end Go.Proofs
