/-
  DERIVED: THE SHELF's CONTRACTS AT THIS DUMP, IN PLAIN WORDS (tools/lay-plain.mjs out of 'YtmpldjbdhbapbaaGreatDoorShelfTry.lean', which tools/lay-shelf.mjs wrote): THE SAME DECLARATIONS UNDER THE SAME NAMES: 'import', 'namespace', 'open', 'def', 'theorem' AND NOTHING ELSE: no command of the shelf's: FOR A HAND-IN. Each laying: the table of numbers ('.._ren') and one theorem, a field a fact of the dump's own or the kernel's comparison; each contract: ONE APPLICATION.
-/
import Derived.Shelf.Strings.Builder1
import Derived.Shelf.Strings.Builder2
import Derived.Shelf.Strings.Trim
import Derived.Shelf.Small.Utf8
import Derived.Shelf.Small.Bits
import Derived.Shelf.Small.Strs
import Derived.Shelf.Strings.BuilderF
import Derived.Shelf.Strconv.Itoa0
import Derived.Shelf.Strconv.Itoa1
import Derived.Shelf.LaysM
import Derived.Shelf.Strconv.Itoa2
import Derived.Shelf.Strconv.Itoa3
import Derived.Shelf.Strconv.Itoa4
import Derived.Ground.MpProg
import Derived.Shelf.Pu.ParseUintPublic10
import Derived.Shelf.Pu.ErrVarParseUint
import Derived.Shelf.Strings.Search1
import Derived.Shelf.Strings.Search2
import Derived.Shelf.Strings.Search3
import Derived.Shelf.Strings.Cut
import Derived.Shelf.Strings.Shaped
import Derived.Shelf.Sort.Plain
import Derived.Shelf.Strings.Prefix
import Derived.Shelf.Unicode.Decode
import Derived.Shelf.Strings.Runes
import Derived.Shelf.Strings.AsciiSet
import Derived.Shelf.Bits.Mul64
import Derived.Shelf.Strings.Repeat
import Derived.Shelf.Unicode.DecodeSlow
import Derived.Shelf.Unicode.DecodeAny
import Derived.Shelf.Unicode.DecodeLast
import Derived.Shelf.Slices.Turned
import Derived.Shelf.Slices.Equal
import Derived.Ground.Names2Prog
import Derived.Shelf.Slices.Clone
import Derived.Shelf.Slices.SearchI
import Derived.Shelf.Slices.In.SortNone
import Derived.Ground.SlgnProg
import Derived.Shelf.SlicesG.SearchI
import Derived.Shelf.SlicesE.Clone
import Derived.Test.YtmpldjbdhbapbaaGreatDoorProg
namespace Go.Proofs
open Go.Shelf
def Tryz.lays161_ren:Go.Shelf.Ren:=⟨fun|161=>215|231=>230|227=>232|233=>233|235=>235|228=>252|197=>253|151=>254|260=>263|152=>264|137=>269|119=>270|224=>222|225=>221|217=>220|266=>242|n=>n,fun|9=>9|4=>4|3=>3|5=>5|117=>279|116=>278|0=>0|124=>282|105=>297|21=>21|119=>310|46=>132|139=>313|138=>312|n=>n,fun|3=>4|4=>5|n=>n⟩
theorem Tryz.lays161:Go.Proofs.Lays.n161 Tryz.prog Tryz.lays161_ren:={
  mixed:=by kernel_rfl
  f119:=Tryz.func270.trans (congrArg some (by kernel_rfl))
  f137:=Tryz.func269.trans (congrArg some (by kernel_rfl))
  f151:=Tryz.func254.trans (congrArg some (by kernel_rfl))
  f152:=Tryz.func264.trans (congrArg some (by kernel_rfl))
  f161:=Tryz.func215.trans (congrArg some (by kernel_rfl))
  f197:=Tryz.func253.trans (congrArg some (by kernel_rfl))
  f217:=Tryz.func220.trans (congrArg some (by kernel_rfl))
  f224:=Tryz.func222.trans (congrArg some (by kernel_rfl))
  f225:=Tryz.func221.trans (congrArg some (by kernel_rfl))
  f227:=Tryz.func232.trans (congrArg some (by kernel_rfl))
  f228:=Tryz.func252.trans (congrArg some (by kernel_rfl))
  f231:=Tryz.func230.trans (congrArg some (by kernel_rfl))
  f233:=Tryz.func233.trans (congrArg some (by kernel_rfl))
  f235:=Tryz.func235.trans (congrArg some (by kernel_rfl))
  f260:=Tryz.func263.trans (congrArg some (by kernel_rfl))
  f266:=Tryz.func242.trans (congrArg some (by kernel_rfl))
  t0:=Tryz.underlying0
  a0:=Tryz.isAgg0
  z0:=Tryz.sizeOf0
  v0:=Tryz.zeroValue0
  t3:=Tryz.underlying3
  a3:=Tryz.isAgg3
  z3:=Tryz.sizeOf3
  v3:=Tryz.zeroValue3
  t4:=Tryz.underlying4
  a4:=Tryz.isAgg4
  z4:=Tryz.sizeOf4
  v4:=Tryz.zeroValue4
  t5:=Tryz.underlying5
  a5:=Tryz.isAgg5
  z5:=Tryz.sizeOf5
  v5:=Tryz.zeroValue5
  t9:=Tryz.underlying9
  a9:=Tryz.isAgg9
  z9:=Tryz.sizeOf9
  v9:=Tryz.zeroValue9
  t21:=Tryz.underlying21
  a21:=Tryz.isAgg21
  z21:=Tryz.sizeOf21
  v21:=Tryz.zeroValue21
  t46:=Tryz.underlying132
  a46:=Tryz.isAgg132
  z46:=Tryz.sizeOf132
  v46:=Tryz.zeroValue132
  t105:=Tryz.underlying297
  a105:=Tryz.isAgg297
  z105:=Tryz.sizeOf297
  v105:=Tryz.zeroValue297
  t116:=Tryz.underlying278
  a116:=Tryz.isAgg278
  z116:=Tryz.sizeOf278
  t117:=Tryz.underlying279
  a117:=Tryz.isAgg279
  z117:=Tryz.sizeOf279
  v117:=Tryz.zeroValue279
  t119:=Tryz.underlying310
  a119:=Tryz.isAgg310
  z119:=Tryz.sizeOf310
  t124:=Tryz.underlying282
  a124:=Tryz.isAgg282
  z124:=Tryz.sizeOf282
  v124:=Tryz.zeroValue282
  t138:=Tryz.underlying312
  a138:=Tryz.isAgg312
  z138:=Tryz.sizeOf312
  v138:=Tryz.zeroValue312
  t139:=Tryz.underlying313
  a139:=Tryz.isAgg313
  z139:=Tryz.sizeOf313
  v139:=Tryz.zeroValue313
  g3:=by kernel_rfl
  g4:=by kernel_rfl }
open Go.RowKit in
/-- strings.TrimLeft: "TrimLeft returns a slice of the string s with all leading Unicode code points contained in cutset removed.": AT A cutset OF ONE ASCII BYTE. The world is as it was. (LAID: no walk: one application.) -/
theorem Tryz.strings_TrimLeft_one(s:ByteArray)(c:UInt8)(hc:c.toNat<128)(w:World):
    Calls Tryz.prog 215 #[.string s,.string ⟨#[c]⟩] w fun e w'=>e=.returned (.string ⟨(Lib.trimLeftB s.data.toList c).toArray⟩)∧w'=w:=Any.strings_TrimLeft_one Tryz.lays161 s c hc w
def Tryz.lays162_ren:Go.Shelf.Ren:=⟨fun|162=>214|232=>231|227=>232|234=>234|236=>236|228=>252|271=>255|151=>254|120=>265|197=>253|152=>264|260=>263|137=>269|119=>270|224=>222|225=>221|217=>220|266=>242|n=>n,fun|9=>9|4=>4|3=>3|5=>5|117=>279|116=>278|0=>0|124=>282|21=>21|105=>297|46=>132|119=>310|139=>313|138=>312|n=>n,fun|3=>4|4=>5|n=>n⟩
theorem Tryz.lays162:Go.Proofs.Lays.n162 Tryz.prog Tryz.lays162_ren:={
  mixed:=by kernel_rfl
  f119:=Tryz.func270.trans (congrArg some (by kernel_rfl))
  f120:=Tryz.func265.trans (congrArg some (by kernel_rfl))
  f137:=Tryz.func269.trans (congrArg some (by kernel_rfl))
  f151:=Tryz.func254.trans (congrArg some (by kernel_rfl))
  f152:=Tryz.func264.trans (congrArg some (by kernel_rfl))
  f162:=Tryz.func214.trans (congrArg some (by kernel_rfl))
  f197:=Tryz.func253.trans (congrArg some (by kernel_rfl))
  f217:=Tryz.func220.trans (congrArg some (by kernel_rfl))
  f224:=Tryz.func222.trans (congrArg some (by kernel_rfl))
  f225:=Tryz.func221.trans (congrArg some (by kernel_rfl))
  f227:=Tryz.func232.trans (congrArg some (by kernel_rfl))
  f228:=Tryz.func252.trans (congrArg some (by kernel_rfl))
  f232:=Tryz.func231.trans (congrArg some (by kernel_rfl))
  f234:=Tryz.func234.trans (congrArg some (by kernel_rfl))
  f236:=Tryz.func236.trans (congrArg some (by kernel_rfl))
  f260:=Tryz.func263.trans (congrArg some (by kernel_rfl))
  f266:=Tryz.func242.trans (congrArg some (by kernel_rfl))
  f271:=Tryz.func255.trans (congrArg some (by kernel_rfl))
  t0:=Tryz.underlying0
  a0:=Tryz.isAgg0
  z0:=Tryz.sizeOf0
  v0:=Tryz.zeroValue0
  t3:=Tryz.underlying3
  a3:=Tryz.isAgg3
  z3:=Tryz.sizeOf3
  v3:=Tryz.zeroValue3
  t4:=Tryz.underlying4
  a4:=Tryz.isAgg4
  z4:=Tryz.sizeOf4
  v4:=Tryz.zeroValue4
  t5:=Tryz.underlying5
  a5:=Tryz.isAgg5
  z5:=Tryz.sizeOf5
  v5:=Tryz.zeroValue5
  t9:=Tryz.underlying9
  a9:=Tryz.isAgg9
  z9:=Tryz.sizeOf9
  v9:=Tryz.zeroValue9
  t21:=Tryz.underlying21
  a21:=Tryz.isAgg21
  z21:=Tryz.sizeOf21
  v21:=Tryz.zeroValue21
  t46:=Tryz.underlying132
  a46:=Tryz.isAgg132
  z46:=Tryz.sizeOf132
  v46:=Tryz.zeroValue132
  t105:=Tryz.underlying297
  a105:=Tryz.isAgg297
  z105:=Tryz.sizeOf297
  v105:=Tryz.zeroValue297
  t116:=Tryz.underlying278
  a116:=Tryz.isAgg278
  z116:=Tryz.sizeOf278
  t117:=Tryz.underlying279
  a117:=Tryz.isAgg279
  z117:=Tryz.sizeOf279
  v117:=Tryz.zeroValue279
  t119:=Tryz.underlying310
  a119:=Tryz.isAgg310
  z119:=Tryz.sizeOf310
  t124:=Tryz.underlying282
  a124:=Tryz.isAgg282
  z124:=Tryz.sizeOf282
  v124:=Tryz.zeroValue282
  t138:=Tryz.underlying312
  a138:=Tryz.isAgg312
  z138:=Tryz.sizeOf312
  v138:=Tryz.zeroValue312
  t139:=Tryz.underlying313
  a139:=Tryz.isAgg313
  z139:=Tryz.sizeOf313
  v139:=Tryz.zeroValue313
  g3:=by kernel_rfl
  g4:=by kernel_rfl }
open Go.RowKit in
/-- strings.TrimRight: "TrimRight returns a slice of the string s, with all trailing Unicode code points contained in cutset removed.": AT A cutset OF ONE ASCII BYTE. The world is as it was. (LAID: no walk: one application.) -/
theorem Tryz.strings_TrimRight_one(s:ByteArray)(c:UInt8)(hc:c.toNat<128)(w:World)(hs:s.size≤9223372036854775807):
    Calls Tryz.prog 214 #[.string s,.string ⟨#[c]⟩] w fun e w'=>e=.returned (.string ⟨(Lib.trimRightB s.data.toList c).toArray⟩)∧w'=w:=Any.strings_TrimRight_one Tryz.lays162 s c hc w hs
def Tryz.lays160_ren:Go.Shelf.Ren:=⟨fun|160=>213|232=>231|231=>230|227=>232|234=>234|233=>233|236=>236|235=>235|228=>252|271=>255|151=>254|197=>253|120=>265|152=>264|260=>263|137=>269|119=>270|224=>222|225=>221|217=>220|266=>242|n=>n,fun|9=>9|4=>4|3=>3|5=>5|117=>279|116=>278|0=>0|124=>282|21=>21|105=>297|46=>132|119=>310|139=>313|138=>312|n=>n,fun|3=>4|4=>5|n=>n⟩
theorem Tryz.lays160:Go.Proofs.Lays.n160 Tryz.prog Tryz.lays160_ren:={
  mixed:=by kernel_rfl
  f119:=Tryz.func270.trans (congrArg some (by kernel_rfl))
  f120:=Tryz.func265.trans (congrArg some (by kernel_rfl))
  f137:=Tryz.func269.trans (congrArg some (by kernel_rfl))
  f151:=Tryz.func254.trans (congrArg some (by kernel_rfl))
  f152:=Tryz.func264.trans (congrArg some (by kernel_rfl))
  f160:=Tryz.func213.trans (congrArg some (by kernel_rfl))
  f197:=Tryz.func253.trans (congrArg some (by kernel_rfl))
  f217:=Tryz.func220.trans (congrArg some (by kernel_rfl))
  f224:=Tryz.func222.trans (congrArg some (by kernel_rfl))
  f225:=Tryz.func221.trans (congrArg some (by kernel_rfl))
  f227:=Tryz.func232.trans (congrArg some (by kernel_rfl))
  f228:=Tryz.func252.trans (congrArg some (by kernel_rfl))
  f231:=Tryz.func230.trans (congrArg some (by kernel_rfl))
  f232:=Tryz.func231.trans (congrArg some (by kernel_rfl))
  f233:=Tryz.func233.trans (congrArg some (by kernel_rfl))
  f234:=Tryz.func234.trans (congrArg some (by kernel_rfl))
  f235:=Tryz.func235.trans (congrArg some (by kernel_rfl))
  f236:=Tryz.func236.trans (congrArg some (by kernel_rfl))
  f260:=Tryz.func263.trans (congrArg some (by kernel_rfl))
  f266:=Tryz.func242.trans (congrArg some (by kernel_rfl))
  f271:=Tryz.func255.trans (congrArg some (by kernel_rfl))
  t0:=Tryz.underlying0
  a0:=Tryz.isAgg0
  z0:=Tryz.sizeOf0
  v0:=Tryz.zeroValue0
  t3:=Tryz.underlying3
  a3:=Tryz.isAgg3
  z3:=Tryz.sizeOf3
  v3:=Tryz.zeroValue3
  t4:=Tryz.underlying4
  a4:=Tryz.isAgg4
  z4:=Tryz.sizeOf4
  v4:=Tryz.zeroValue4
  t5:=Tryz.underlying5
  a5:=Tryz.isAgg5
  z5:=Tryz.sizeOf5
  v5:=Tryz.zeroValue5
  t9:=Tryz.underlying9
  a9:=Tryz.isAgg9
  z9:=Tryz.sizeOf9
  v9:=Tryz.zeroValue9
  t21:=Tryz.underlying21
  a21:=Tryz.isAgg21
  z21:=Tryz.sizeOf21
  v21:=Tryz.zeroValue21
  t46:=Tryz.underlying132
  a46:=Tryz.isAgg132
  z46:=Tryz.sizeOf132
  v46:=Tryz.zeroValue132
  t105:=Tryz.underlying297
  a105:=Tryz.isAgg297
  z105:=Tryz.sizeOf297
  v105:=Tryz.zeroValue297
  t116:=Tryz.underlying278
  a116:=Tryz.isAgg278
  z116:=Tryz.sizeOf278
  t117:=Tryz.underlying279
  a117:=Tryz.isAgg279
  z117:=Tryz.sizeOf279
  v117:=Tryz.zeroValue279
  t119:=Tryz.underlying310
  a119:=Tryz.isAgg310
  z119:=Tryz.sizeOf310
  t124:=Tryz.underlying282
  a124:=Tryz.isAgg282
  z124:=Tryz.sizeOf282
  v124:=Tryz.zeroValue282
  t138:=Tryz.underlying312
  a138:=Tryz.isAgg312
  z138:=Tryz.sizeOf312
  v138:=Tryz.zeroValue312
  t139:=Tryz.underlying313
  a139:=Tryz.isAgg313
  z139:=Tryz.sizeOf313
  v139:=Tryz.zeroValue313
  g3:=by kernel_rfl
  g4:=by kernel_rfl }
def Tryz.lays145_ren:Go.Shelf.Ren:=⟨fun|145=>186|220=>206|219=>205|217=>220|225=>221|224=>222|267=>223|266=>242|314=>243|n=>n,fun|9=>9|4=>4|59=>234|3=>3|5=>5|46=>132|146=>271|51=>195|n=>n,fun|1=>0|n=>n⟩
theorem Tryz.lays145:Go.Proofs.Lays.n145 Tryz.prog Tryz.lays145_ren:={
  mixed:=by kernel_rfl
  f145:=Tryz.func186.trans (congrArg some (by kernel_rfl))
  f217:=Tryz.func220.trans (congrArg some (by kernel_rfl))
  f219:=Tryz.func205.trans (congrArg some (by kernel_rfl))
  f220:=Tryz.func206.trans (congrArg some (by kernel_rfl))
  f224:=Tryz.func222.trans (congrArg some (by kernel_rfl))
  f225:=Tryz.func221.trans (congrArg some (by kernel_rfl))
  f266:=Tryz.func242.trans (congrArg some (by kernel_rfl))
  f267:=Tryz.func223.trans (congrArg some (by kernel_rfl))
  f314:=Tryz.func243.trans (congrArg some (by kernel_rfl))
  t3:=Tryz.underlying3
  a3:=Tryz.isAgg3
  z3:=Tryz.sizeOf3
  v3:=Tryz.zeroValue3
  t4:=Tryz.underlying4
  a4:=Tryz.isAgg4
  z4:=Tryz.sizeOf4
  v4:=Tryz.zeroValue4
  t5:=Tryz.underlying5
  a5:=Tryz.isAgg5
  z5:=Tryz.sizeOf5
  v5:=Tryz.zeroValue5
  t9:=Tryz.underlying9
  a9:=Tryz.isAgg9
  z9:=Tryz.sizeOf9
  v9:=Tryz.zeroValue9
  t46:=Tryz.underlying132
  a46:=Tryz.isAgg132
  z46:=Tryz.sizeOf132
  v46:=Tryz.zeroValue132
  t51:=Tryz.underlying195
  a51:=Tryz.isAgg195
  z51:=Tryz.sizeOf195
  v51:=Tryz.zeroValue195
  t59:=Tryz.underlying234
  a59:=Tryz.isAgg234
  z59:=Tryz.sizeOf234
  v59:=Tryz.zeroValue234
  t146:=Tryz.underlying271
  a146:=Tryz.isAgg271
  z146:=Tryz.sizeOf271
  v146:=Tryz.zeroValue271
  g1:=by kernel_rfl }
open Go.RowKit Go.Lib in
/-- strings.Cut: "Cut slices s around the first instance of sep, returning the text before and after sep. The found result reports whether sep appears in s. If sep does not appear in s, cut returns s, "", false.": IT RETURNS 'Lib.cut s sep';the world is as it was but for the count of draws. (LAID: no walk: one application.) -/
theorem Tryz.strings_Cut(s sep:ByteArray)(m:Int)(w:World)(hs:s.size<4294967281)(hm:w.cell? ⟨0,0,none⟩=some (.int .i64 m)):
    Calls Tryz.prog 186 #[.string s,.string sep] w fun e w'=>e=.returned (.tuple #[.string ⟨(Lib.cut s.data.toList sep.data.toList).1.toArray⟩,.string ⟨(Lib.cut s.data.toList sep.data.toList).2.1.toArray⟩,.bool (Lib.cut s.data.toList sep.data.toList).2.2])∧∃n,w'=w.drewN n:=Any.strings_Cut Tryz.lays145 s sep m w hs hm
def Tryz.lays99_ren:Go.Shelf.Ren:=⟨fun|99=>147|206=>183|n=>n,fun|9=>9|4=>4|3=>3|n=>n,fun|n=>n⟩
theorem Tryz.lays99:Go.Proofs.Lays.n99 Tryz.prog Tryz.lays99_ren:={
  mixed:=by kernel_rfl
  f99:=Tryz.func147.trans (congrArg some (by kernel_rfl))
  f206:=Tryz.func183.trans (congrArg some (by kernel_rfl))
  t3:=Tryz.underlying3
  a3:=Tryz.isAgg3
  z3:=Tryz.sizeOf3
  v3:=Tryz.zeroValue3
  t4:=Tryz.underlying4
  a4:=Tryz.isAgg4
  z4:=Tryz.sizeOf4
  v4:=Tryz.zeroValue4
  t9:=Tryz.underlying9
  a9:=Tryz.isAgg9
  z9:=Tryz.sizeOf9
  v9:=Tryz.zeroValue9 }
open Go.RowKit Go.Lib in
/-- strings.HasPrefix: "HasPrefix reports whether the string s begins with prefix.": IT RETURNS 'Lib.hasPrefix s prefix';the world is as it was. (LAID: no walk: one application.) -/
theorem Tryz.strings_HasPrefix(s p:ByteArray)(w:World):
    Calls Tryz.prog 147 #[.string s,.string p] w fun e w'=>e=.returned (.bool (Lib.hasPrefix s.data.toList p.data.toList))∧w'=w:=Any.strings_HasPrefix Tryz.lays99 s p w
def Tryz.lays105_ren:Go.Shelf.Ren:=⟨fun|105=>188|212=>208|99=>147|165=>209|166=>210|170=>211|169=>212|263=>226|264=>227|206=>183|240=>228|241=>229|276=>250|277=>251|n=>n,fun|9=>9|3=>3|4=>4|20=>20|0=>0|46=>132|109=>257|5=>5|72=>261|76=>263|51=>195|146=>271|53=>158|148=>273|70=>259|37=>108|75=>254|127=>275|164=>294|80=>251|n=>n,fun|n=>n⟩
theorem Tryz.lays105:Go.Proofs.Lays.n105 Tryz.prog Tryz.lays105_ren:={
  mixed:=by kernel_rfl
  f99:=Tryz.func147.trans (congrArg some (by kernel_rfl))
  f105:=Tryz.func188.trans (congrArg some (by kernel_rfl))
  f165:=Tryz.func209.trans (congrArg some (by kernel_rfl))
  f166:=Tryz.func210.trans (congrArg some (by kernel_rfl))
  f169:=Tryz.func212.trans (congrArg some (by kernel_rfl))
  f170:=Tryz.func211.trans (congrArg some (by kernel_rfl))
  f206:=Tryz.func183.trans (congrArg some (by kernel_rfl))
  f212:=Tryz.func208.trans (congrArg some (by kernel_rfl))
  f240:=Tryz.func228.trans (congrArg some (by kernel_rfl))
  f241:=Tryz.func229.trans (congrArg some (by kernel_rfl))
  f263:=Tryz.func226.trans (congrArg some (by kernel_rfl))
  f264:=Tryz.func227.trans (congrArg some (by kernel_rfl))
  f276:=Tryz.func250.trans (congrArg some (by kernel_rfl))
  f277:=Tryz.func251.trans (congrArg some (by kernel_rfl))
  t0:=Tryz.underlying0
  a0:=Tryz.isAgg0
  z0:=Tryz.sizeOf0
  v0:=Tryz.zeroValue0
  t3:=Tryz.underlying3
  a3:=Tryz.isAgg3
  z3:=Tryz.sizeOf3
  v3:=Tryz.zeroValue3
  t4:=Tryz.underlying4
  a4:=Tryz.isAgg4
  z4:=Tryz.sizeOf4
  v4:=Tryz.zeroValue4
  t5:=Tryz.underlying5
  a5:=Tryz.isAgg5
  z5:=Tryz.sizeOf5
  v5:=Tryz.zeroValue5
  t9:=Tryz.underlying9
  a9:=Tryz.isAgg9
  z9:=Tryz.sizeOf9
  v9:=Tryz.zeroValue9
  t20:=Tryz.underlying20
  a20:=Tryz.isAgg20
  z20:=Tryz.sizeOf20
  v20:=Tryz.zeroValue20
  t37:=Tryz.underlying108
  a37:=Tryz.isAgg108
  z37:=Tryz.sizeOf108
  v37:=Tryz.zeroValue108
  t46:=Tryz.underlying132
  a46:=Tryz.isAgg132
  z46:=Tryz.sizeOf132
  v46:=Tryz.zeroValue132
  t51:=Tryz.underlying195
  a51:=Tryz.isAgg195
  z51:=Tryz.sizeOf195
  v51:=Tryz.zeroValue195
  t53:=Tryz.underlying158
  a53:=Tryz.isAgg158
  z53:=Tryz.sizeOf158
  v53:=Tryz.zeroValue158
  t70:=Tryz.underlying259
  a70:=Tryz.isAgg259
  z70:=Tryz.sizeOf259
  v70:=Tryz.zeroValue259
  t72:=Tryz.underlying261
  a72:=Tryz.isAgg261
  z72:=Tryz.sizeOf261
  v72:=Tryz.zeroValue261
  t75:=Tryz.underlying254
  a75:=Tryz.isAgg254
  z75:=Tryz.sizeOf254
  v75:=Tryz.zeroValue254
  t76:=Tryz.underlying263
  a76:=Tryz.isAgg263
  z76:=Tryz.sizeOf263
  v76:=Tryz.zeroValue263
  t109:=Tryz.underlying257
  a109:=Tryz.isAgg257
  z109:=Tryz.sizeOf257
  v109:=Tryz.zeroValue257
  t127:=Tryz.underlying275
  a127:=Tryz.isAgg275
  z127:=Tryz.sizeOf275
  v127:=Tryz.zeroValue275
  t146:=Tryz.underlying271
  a146:=Tryz.isAgg271
  z146:=Tryz.sizeOf271
  v146:=Tryz.zeroValue271
  t148:=Tryz.underlying273
  a148:=Tryz.isAgg273
  z148:=Tryz.sizeOf273
  v148:=Tryz.zeroValue273
  t164:=Tryz.underlying294
  a164:=Tryz.isAgg294
  z164:=Tryz.sizeOf294
  v164:=Tryz.zeroValue294 }
theorem Tryz.Builder_Extra_105:Builder.Extra Tryz.prog Tryz.lays105_ren:={
  sizeBuilder:=by kernel_rfl
  liesBuilder:=by kernel_rfl
  t5:=Tryz.underlying5
  a5:=Tryz.isAgg5
  z5:=Tryz.sizeOf5
  v5:=Tryz.zeroValue5
  infoByte:=by kernel_rfl
  cellsByte:=by kernel_rfl
  sizeByte:=by kernel_rfl
  neB5:=by decide }
open Go.RowKit Go.Lib in
/-- **strings.Repeat: count≥0,the result within one allocation: count copies of s.** (LAID: no walk: one application.) -/
theorem Tryz.strings_Repeat(s:ByteArray)(c:Nat)(w:World)(hc:c≤9223372036854775807)(hlen:s.size * c≤140737488355328):
    Calls Tryz.prog 188 #[.string s,.int .i64 c] w fun e w'=>e=.returned (.string ⟨(Lib.repeatL s.data.toList c).toArray⟩)∧Below w.heap.size w w':=Any.strings_Repeat Tryz.lays105 Tryz.Builder_Extra_105 s c w hc hlen
end Go.Proofs
