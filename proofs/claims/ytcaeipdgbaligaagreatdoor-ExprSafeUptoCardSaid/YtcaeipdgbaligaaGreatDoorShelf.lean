/-
  DERIVED: THE SHELF's CONTRACTS AT THIS DUMP, IN PLAIN WORDS (tools/lay-plain.mjs out of 'YtcaeipdgbaligaaGreatDoorShelfTry.lean', which tools/lay-shelf.mjs wrote): THE SAME DECLARATIONS UNDER THE SAME NAMES: 'import', 'namespace', 'open', 'def', 'theorem' AND NOTHING ELSE: no command of the shelf's: FOR A HAND-IN. Each laying: the table of numbers ('.._ren') and one theorem, a field a fact of the dump's own or the kernel's comparison; each contract: ONE APPLICATION.
-/
import Derived.Shelf.Strings.Builder1
import Derived.Shelf.Strings.Builder2
import Derived.Shelf.Strings.Trim
import Derived.Shelf.Small.Utf8
import Derived.Shelf.Small.Strs
import Derived.Shelf.Strings.BuilderF
import Derived.Shelf.Strconv.Itoa0
import Derived.Shelf.Strconv.Itoa1
import Derived.Shelf.LaysM
import Derived.Shelf.Strconv.Itoa2
import Derived.Shelf.Strconv.Itoa3
import Derived.Shelf.Strconv.Itoa4
import Derived.Shelf.Strings.Search1
import Derived.Shelf.Strings.Search2
import Derived.Shelf.Strings.Search3
import Derived.Shelf.Strings.Cut
import Derived.Shelf.Strings.Shaped
import Derived.Shelf.Strings.Prefix
import Derived.Shelf.Strings.Runes
import Derived.Shelf.Strings.AsciiSet
import Derived.Shelf.Bits.Mul64
import Derived.Shelf.Strings.Repeat
import Derived.Shelf.Unicode.DecodeSlow
import Derived.Test.YtcaeipdgbaligaaGreatDoorProg
namespace Go.Proofs
open Go.Shelf
def Tryz.lays161_ren:Go.Shelf.Ren:=⟨fun|161=>159|231=>183|227=>180|233=>184|235=>185|228=>201|197=>204|151=>203|260=>216|152=>215|137=>223|119=>224|224=>168|225=>167|217=>166|266=>191|n=>n,fun|9=>9|4=>4|3=>3|5=>5|117=>227|116=>226|0=>0|124=>230|105=>249|21=>21|119=>268|46=>210|139=>271|138=>270|n=>n,fun|3=>4|4=>5|n=>n⟩
theorem Tryz.lays161:Go.Proofs.Lays.n161 Tryz.prog Tryz.lays161_ren:={
  mixed:=by kernel_rfl
  f119:=Tryz.func224.trans (congrArg some (by kernel_rfl))
  f137:=Tryz.func223.trans (congrArg some (by kernel_rfl))
  f151:=Tryz.func203.trans (congrArg some (by kernel_rfl))
  f152:=Tryz.func215.trans (congrArg some (by kernel_rfl))
  f161:=Tryz.func159.trans (congrArg some (by kernel_rfl))
  f197:=Tryz.func204.trans (congrArg some (by kernel_rfl))
  f217:=Tryz.func166.trans (congrArg some (by kernel_rfl))
  f224:=Tryz.func168.trans (congrArg some (by kernel_rfl))
  f225:=Tryz.func167.trans (congrArg some (by kernel_rfl))
  f227:=Tryz.func180.trans (congrArg some (by kernel_rfl))
  f228:=Tryz.func201.trans (congrArg some (by kernel_rfl))
  f231:=Tryz.func183.trans (congrArg some (by kernel_rfl))
  f233:=Tryz.func184.trans (congrArg some (by kernel_rfl))
  f235:=Tryz.func185.trans (congrArg some (by kernel_rfl))
  f260:=Tryz.func216.trans (congrArg some (by kernel_rfl))
  f266:=Tryz.func191.trans (congrArg some (by kernel_rfl))
  t0:=Tryz.underlying0
  a0:=Tryz.isAgg0
  z0:=Tryz.sizeOf0
  v0:=Tryz.zeroValue0
  t3:=Tryz.underlying3
  a3:=Tryz.isAgg3
  z3:=Tryz.sizeOf3
  v3:=Tryz.zeroValue3
  t4:=Tryz.underlying4
  a4:=Tryz.isAgg4
  z4:=Tryz.sizeOf4
  v4:=Tryz.zeroValue4
  t5:=Tryz.underlying5
  a5:=Tryz.isAgg5
  z5:=Tryz.sizeOf5
  v5:=Tryz.zeroValue5
  t9:=Tryz.underlying9
  a9:=Tryz.isAgg9
  z9:=Tryz.sizeOf9
  v9:=Tryz.zeroValue9
  t21:=Tryz.underlying21
  a21:=Tryz.isAgg21
  z21:=Tryz.sizeOf21
  v21:=Tryz.zeroValue21
  t46:=Tryz.underlying210
  a46:=Tryz.isAgg210
  z46:=Tryz.sizeOf210
  v46:=Tryz.zeroValue210
  t105:=Tryz.underlying249
  a105:=Tryz.isAgg249
  z105:=Tryz.sizeOf249
  v105:=Tryz.zeroValue249
  t116:=Tryz.underlying226
  a116:=Tryz.isAgg226
  z116:=Tryz.sizeOf226
  t117:=Tryz.underlying227
  a117:=Tryz.isAgg227
  z117:=Tryz.sizeOf227
  v117:=Tryz.zeroValue227
  t119:=Tryz.underlying268
  a119:=Tryz.isAgg268
  z119:=Tryz.sizeOf268
  t124:=Tryz.underlying230
  a124:=Tryz.isAgg230
  z124:=Tryz.sizeOf230
  v124:=Tryz.zeroValue230
  t138:=Tryz.underlying270
  a138:=Tryz.isAgg270
  z138:=Tryz.sizeOf270
  v138:=Tryz.zeroValue270
  t139:=Tryz.underlying271
  a139:=Tryz.isAgg271
  z139:=Tryz.sizeOf271
  v139:=Tryz.zeroValue271
  g3:=by kernel_rfl
  g4:=by kernel_rfl }
open Go.RowKit in
/-- strings.TrimLeft: "TrimLeft returns a slice of the string s with all leading Unicode code points contained in cutset removed.": AT A cutset OF ONE ASCII BYTE. The world is as it was. (LAID: no walk: one application.) -/
theorem Tryz.strings_TrimLeft_one(s:ByteArray)(c:UInt8)(hc:c.toNat<128)(w:World):
    Calls Tryz.prog 159 #[.string s,.string ⟨#[c]⟩] w fun e w'=>e=.returned (.string ⟨(Lib.trimLeftB s.data.toList c).toArray⟩)∧w'=w:=Any.strings_TrimLeft_one Tryz.lays161 s c hc w
def Tryz.lays162_ren:Go.Shelf.Ren:=⟨fun|162=>158|232=>179|227=>180|234=>181|236=>182|228=>201|271=>202|151=>203|120=>214|197=>204|152=>215|260=>216|137=>223|119=>224|224=>168|225=>167|217=>166|266=>191|n=>n,fun|9=>9|4=>4|3=>3|5=>5|117=>227|116=>226|0=>0|124=>230|21=>21|105=>249|46=>210|119=>268|139=>271|138=>270|n=>n,fun|3=>4|4=>5|n=>n⟩
theorem Tryz.lays162:Go.Proofs.Lays.n162 Tryz.prog Tryz.lays162_ren:={
  mixed:=by kernel_rfl
  f119:=Tryz.func224.trans (congrArg some (by kernel_rfl))
  f120:=Tryz.func214.trans (congrArg some (by kernel_rfl))
  f137:=Tryz.func223.trans (congrArg some (by kernel_rfl))
  f151:=Tryz.func203.trans (congrArg some (by kernel_rfl))
  f152:=Tryz.func215.trans (congrArg some (by kernel_rfl))
  f162:=Tryz.func158.trans (congrArg some (by kernel_rfl))
  f197:=Tryz.func204.trans (congrArg some (by kernel_rfl))
  f217:=Tryz.func166.trans (congrArg some (by kernel_rfl))
  f224:=Tryz.func168.trans (congrArg some (by kernel_rfl))
  f225:=Tryz.func167.trans (congrArg some (by kernel_rfl))
  f227:=Tryz.func180.trans (congrArg some (by kernel_rfl))
  f228:=Tryz.func201.trans (congrArg some (by kernel_rfl))
  f232:=Tryz.func179.trans (congrArg some (by kernel_rfl))
  f234:=Tryz.func181.trans (congrArg some (by kernel_rfl))
  f236:=Tryz.func182.trans (congrArg some (by kernel_rfl))
  f260:=Tryz.func216.trans (congrArg some (by kernel_rfl))
  f266:=Tryz.func191.trans (congrArg some (by kernel_rfl))
  f271:=Tryz.func202.trans (congrArg some (by kernel_rfl))
  t0:=Tryz.underlying0
  a0:=Tryz.isAgg0
  z0:=Tryz.sizeOf0
  v0:=Tryz.zeroValue0
  t3:=Tryz.underlying3
  a3:=Tryz.isAgg3
  z3:=Tryz.sizeOf3
  v3:=Tryz.zeroValue3
  t4:=Tryz.underlying4
  a4:=Tryz.isAgg4
  z4:=Tryz.sizeOf4
  v4:=Tryz.zeroValue4
  t5:=Tryz.underlying5
  a5:=Tryz.isAgg5
  z5:=Tryz.sizeOf5
  v5:=Tryz.zeroValue5
  t9:=Tryz.underlying9
  a9:=Tryz.isAgg9
  z9:=Tryz.sizeOf9
  v9:=Tryz.zeroValue9
  t21:=Tryz.underlying21
  a21:=Tryz.isAgg21
  z21:=Tryz.sizeOf21
  v21:=Tryz.zeroValue21
  t46:=Tryz.underlying210
  a46:=Tryz.isAgg210
  z46:=Tryz.sizeOf210
  v46:=Tryz.zeroValue210
  t105:=Tryz.underlying249
  a105:=Tryz.isAgg249
  z105:=Tryz.sizeOf249
  v105:=Tryz.zeroValue249
  t116:=Tryz.underlying226
  a116:=Tryz.isAgg226
  z116:=Tryz.sizeOf226
  t117:=Tryz.underlying227
  a117:=Tryz.isAgg227
  z117:=Tryz.sizeOf227
  v117:=Tryz.zeroValue227
  t119:=Tryz.underlying268
  a119:=Tryz.isAgg268
  z119:=Tryz.sizeOf268
  t124:=Tryz.underlying230
  a124:=Tryz.isAgg230
  z124:=Tryz.sizeOf230
  v124:=Tryz.zeroValue230
  t138:=Tryz.underlying270
  a138:=Tryz.isAgg270
  z138:=Tryz.sizeOf270
  v138:=Tryz.zeroValue270
  t139:=Tryz.underlying271
  a139:=Tryz.isAgg271
  z139:=Tryz.sizeOf271
  v139:=Tryz.zeroValue271
  g3:=by kernel_rfl
  g4:=by kernel_rfl }
open Go.RowKit in
/-- strings.TrimRight: "TrimRight returns a slice of the string s, with all trailing Unicode code points contained in cutset removed.": AT A cutset OF ONE ASCII BYTE. The world is as it was. (LAID: no walk: one application.) -/
theorem Tryz.strings_TrimRight_one(s:ByteArray)(c:UInt8)(hc:c.toNat<128)(w:World)(hs:s.size≤9223372036854775807):
    Calls Tryz.prog 158 #[.string s,.string ⟨#[c]⟩] w fun e w'=>e=.returned (.string ⟨(Lib.trimRightB s.data.toList c).toArray⟩)∧w'=w:=Any.strings_TrimRight_one Tryz.lays162 s c hc w hs
def Tryz.lays160_ren:Go.Shelf.Ren:=⟨fun|160=>173|232=>179|231=>183|227=>180|234=>181|233=>184|236=>182|235=>185|228=>201|271=>202|151=>203|197=>204|120=>214|152=>215|260=>216|137=>223|119=>224|224=>168|225=>167|217=>166|266=>191|n=>n,fun|9=>9|4=>4|3=>3|5=>5|117=>227|116=>226|0=>0|124=>230|21=>21|105=>249|46=>210|119=>268|139=>271|138=>270|n=>n,fun|3=>4|4=>5|n=>n⟩
theorem Tryz.lays160:Go.Proofs.Lays.n160 Tryz.prog Tryz.lays160_ren:={
  mixed:=by kernel_rfl
  f119:=Tryz.func224.trans (congrArg some (by kernel_rfl))
  f120:=Tryz.func214.trans (congrArg some (by kernel_rfl))
  f137:=Tryz.func223.trans (congrArg some (by kernel_rfl))
  f151:=Tryz.func203.trans (congrArg some (by kernel_rfl))
  f152:=Tryz.func215.trans (congrArg some (by kernel_rfl))
  f160:=Tryz.func173.trans (congrArg some (by kernel_rfl))
  f197:=Tryz.func204.trans (congrArg some (by kernel_rfl))
  f217:=Tryz.func166.trans (congrArg some (by kernel_rfl))
  f224:=Tryz.func168.trans (congrArg some (by kernel_rfl))
  f225:=Tryz.func167.trans (congrArg some (by kernel_rfl))
  f227:=Tryz.func180.trans (congrArg some (by kernel_rfl))
  f228:=Tryz.func201.trans (congrArg some (by kernel_rfl))
  f231:=Tryz.func183.trans (congrArg some (by kernel_rfl))
  f232:=Tryz.func179.trans (congrArg some (by kernel_rfl))
  f233:=Tryz.func184.trans (congrArg some (by kernel_rfl))
  f234:=Tryz.func181.trans (congrArg some (by kernel_rfl))
  f235:=Tryz.func185.trans (congrArg some (by kernel_rfl))
  f236:=Tryz.func182.trans (congrArg some (by kernel_rfl))
  f260:=Tryz.func216.trans (congrArg some (by kernel_rfl))
  f266:=Tryz.func191.trans (congrArg some (by kernel_rfl))
  f271:=Tryz.func202.trans (congrArg some (by kernel_rfl))
  t0:=Tryz.underlying0
  a0:=Tryz.isAgg0
  z0:=Tryz.sizeOf0
  v0:=Tryz.zeroValue0
  t3:=Tryz.underlying3
  a3:=Tryz.isAgg3
  z3:=Tryz.sizeOf3
  v3:=Tryz.zeroValue3
  t4:=Tryz.underlying4
  a4:=Tryz.isAgg4
  z4:=Tryz.sizeOf4
  v4:=Tryz.zeroValue4
  t5:=Tryz.underlying5
  a5:=Tryz.isAgg5
  z5:=Tryz.sizeOf5
  v5:=Tryz.zeroValue5
  t9:=Tryz.underlying9
  a9:=Tryz.isAgg9
  z9:=Tryz.sizeOf9
  v9:=Tryz.zeroValue9
  t21:=Tryz.underlying21
  a21:=Tryz.isAgg21
  z21:=Tryz.sizeOf21
  v21:=Tryz.zeroValue21
  t46:=Tryz.underlying210
  a46:=Tryz.isAgg210
  z46:=Tryz.sizeOf210
  v46:=Tryz.zeroValue210
  t105:=Tryz.underlying249
  a105:=Tryz.isAgg249
  z105:=Tryz.sizeOf249
  v105:=Tryz.zeroValue249
  t116:=Tryz.underlying226
  a116:=Tryz.isAgg226
  z116:=Tryz.sizeOf226
  t117:=Tryz.underlying227
  a117:=Tryz.isAgg227
  z117:=Tryz.sizeOf227
  v117:=Tryz.zeroValue227
  t119:=Tryz.underlying268
  a119:=Tryz.isAgg268
  z119:=Tryz.sizeOf268
  t124:=Tryz.underlying230
  a124:=Tryz.isAgg230
  z124:=Tryz.sizeOf230
  v124:=Tryz.zeroValue230
  t138:=Tryz.underlying270
  a138:=Tryz.isAgg270
  z138:=Tryz.sizeOf270
  v138:=Tryz.zeroValue270
  t139:=Tryz.underlying271
  a139:=Tryz.isAgg271
  z139:=Tryz.sizeOf271
  v139:=Tryz.zeroValue271
  g3:=by kernel_rfl
  g4:=by kernel_rfl }
def Tryz.laysM173_ren:Go.Shelf.Ren:=⟨fun|173=>135|246=>153|283=>174|284=>175|285=>176|286=>177|129=>196|317=>195|318=>197|319=>198|320=>199|337=>210|338=>211|n=>n,fun|2=>2|3=>3|9=>9|4=>4|171=>217|0=>0|53=>177|37=>202|5=>5|173=>220|212=>243|51=>232|20=>20|213=>244|46=>210|232=>260|233=>261|n=>n,fun|17=>1|18=>2|19=>3|n=>n⟩
theorem Tryz.laysM173:Go.Proofs.LaysM.n173 Tryz.prog Tryz.laysM173_ren:={
  mixed:=by kernel_rfl
  f129:=Tryz.func196.trans (congrArg some (by kernel_rfl))
  f173:=Tryz.func135.trans (congrArg some (by kernel_rfl))
  f246:=Tryz.func153.trans (congrArg some (by kernel_rfl))
  f283:=Tryz.func174.trans (congrArg some (by kernel_rfl))
  f284:=Tryz.func175.trans (congrArg some (by kernel_rfl))
  f285:=Tryz.func176.trans (congrArg some (by kernel_rfl))
  f286:=Tryz.func177.trans (congrArg some (by kernel_rfl))
  f317:=Tryz.func195.trans (congrArg some (by kernel_rfl))
  f318:=Tryz.func197.trans (congrArg some (by kernel_rfl))
  f319:=Tryz.func198.trans (congrArg some (by kernel_rfl))
  f320:=Tryz.func199.trans (congrArg some (by kernel_rfl))
  f337:=Tryz.func210.trans (congrArg some (by kernel_rfl))
  f338:=Tryz.func211.trans (congrArg some (by kernel_rfl))
  t0:=Tryz.underlying0
  a0:=Tryz.isAgg0
  z0:=Tryz.sizeOf0
  v0:=Tryz.zeroValue0
  t2:=Tryz.underlying2
  a2:=Tryz.isAgg2
  z2:=Tryz.sizeOf2
  v2:=Tryz.zeroValue2
  t3:=Tryz.underlying3
  a3:=Tryz.isAgg3
  z3:=Tryz.sizeOf3
  v3:=Tryz.zeroValue3
  t4:=Tryz.underlying4
  a4:=Tryz.isAgg4
  z4:=Tryz.sizeOf4
  v4:=Tryz.zeroValue4
  t5:=Tryz.underlying5
  a5:=Tryz.isAgg5
  z5:=Tryz.sizeOf5
  v5:=Tryz.zeroValue5
  t9:=Tryz.underlying9
  a9:=Tryz.isAgg9
  z9:=Tryz.sizeOf9
  v9:=Tryz.zeroValue9
  t20:=Tryz.underlying20
  a20:=Tryz.isAgg20
  z20:=Tryz.sizeOf20
  v20:=Tryz.zeroValue20
  t37:=Tryz.underlying202
  a37:=Tryz.isAgg202
  z37:=Tryz.sizeOf202
  v37:=Tryz.zeroValue202
  t46:=Tryz.underlying210
  a46:=Tryz.isAgg210
  z46:=Tryz.sizeOf210
  v46:=Tryz.zeroValue210
  t51:=Tryz.underlying232
  a51:=Tryz.isAgg232
  z51:=Tryz.sizeOf232
  v51:=Tryz.zeroValue232
  t53:=Tryz.underlying177
  a53:=Tryz.isAgg177
  z53:=Tryz.sizeOf177
  v53:=Tryz.zeroValue177
  t171:=Tryz.underlying217
  a171:=Tryz.isAgg217
  z171:=Tryz.sizeOf217
  v171:=Tryz.zeroValue217
  t173:=Tryz.underlying220
  a173:=Tryz.isAgg220
  z173:=Tryz.sizeOf220
  v173:=Tryz.zeroValue220
  t212:=Tryz.underlying243
  a212:=Tryz.isAgg243
  z212:=Tryz.sizeOf243
  v212:=Tryz.zeroValue243
  t213:=Tryz.underlying244
  a213:=Tryz.isAgg244
  z213:=Tryz.sizeOf244
  t232:=Tryz.underlying260
  a232:=Tryz.isAgg260
  z232:=Tryz.sizeOf260
  v232:=Tryz.zeroValue260
  t233:=Tryz.underlying261
  a233:=Tryz.isAgg261
  z233:=Tryz.sizeOf261
  v233:=Tryz.zeroValue261
  g17:=by kernel_rfl
  g18:=by kernel_rfl
  g19:=by kernel_rfl
  i0:=by kernel_rfl
  i2:=by kernel_rfl
  i3:=by kernel_rfl
  i4:=by kernel_rfl
  i5:=by kernel_rfl
  i9:=by kernel_rfl
  i20:=by kernel_rfl
  i37:=by kernel_rfl
  i46:=by kernel_rfl
  i51:=by kernel_rfl
  i53:=by kernel_rfl
  i171:=by kernel_rfl
  i173:=by kernel_rfl
  i212:=by kernel_rfl
  i232:=by kernel_rfl
  i233:=by kernel_rfl
  m17:=by kernel_rfl
  m18:=by kernel_rfl
  m19:=by kernel_rfl }
open Go.RowKit Go.Sort Go.Lib in
/-- strconv.FormatInt: "FormatInt returns the string representation of i in the given base": AT BASE 10: i's decimal numeral,for every int64. (LAID: no walk: one application.) -/
theorem Tryz.strconv_FormatInt_10(n:Int)(h0:-9223372036854775808≤n)(h1:n≤9223372036854775807)(w:World)(htab:Lib.TabIs Tryz.prog w "internal/strconv.uint64pow10" .u64 Lib.pow10Tab):
    Calls Tryz.prog 135 #[.int .i64 n,.int .i64 10] w fun e w'=>e=.returned (.string ⟨(Lib.itoa n).toArray⟩)∧∃k os,w'=grow (w.drewN k) os:=Any.strconv_FormatInt_10 Tryz.laysM173 n h0 h1 w htab
def Tryz.lays145_ren:Go.Shelf.Ren:=⟨fun|145=>150|220=>172|219=>144|217=>166|225=>167|224=>168|267=>169|266=>191|314=>192|n=>n,fun|9=>9|4=>4|59=>193|3=>3|5=>5|46=>210|146=>233|51=>232|n=>n,fun|1=>0|n=>n⟩
theorem Tryz.lays145:Go.Proofs.Lays.n145 Tryz.prog Tryz.lays145_ren:={
  mixed:=by kernel_rfl
  f145:=Tryz.func150.trans (congrArg some (by kernel_rfl))
  f217:=Tryz.func166.trans (congrArg some (by kernel_rfl))
  f219:=Tryz.func144.trans (congrArg some (by kernel_rfl))
  f220:=Tryz.func172.trans (congrArg some (by kernel_rfl))
  f224:=Tryz.func168.trans (congrArg some (by kernel_rfl))
  f225:=Tryz.func167.trans (congrArg some (by kernel_rfl))
  f266:=Tryz.func191.trans (congrArg some (by kernel_rfl))
  f267:=Tryz.func169.trans (congrArg some (by kernel_rfl))
  f314:=Tryz.func192.trans (congrArg some (by kernel_rfl))
  t3:=Tryz.underlying3
  a3:=Tryz.isAgg3
  z3:=Tryz.sizeOf3
  v3:=Tryz.zeroValue3
  t4:=Tryz.underlying4
  a4:=Tryz.isAgg4
  z4:=Tryz.sizeOf4
  v4:=Tryz.zeroValue4
  t5:=Tryz.underlying5
  a5:=Tryz.isAgg5
  z5:=Tryz.sizeOf5
  v5:=Tryz.zeroValue5
  t9:=Tryz.underlying9
  a9:=Tryz.isAgg9
  z9:=Tryz.sizeOf9
  v9:=Tryz.zeroValue9
  t46:=Tryz.underlying210
  a46:=Tryz.isAgg210
  z46:=Tryz.sizeOf210
  v46:=Tryz.zeroValue210
  t51:=Tryz.underlying232
  a51:=Tryz.isAgg232
  z51:=Tryz.sizeOf232
  v51:=Tryz.zeroValue232
  t59:=Tryz.underlying193
  a59:=Tryz.isAgg193
  z59:=Tryz.sizeOf193
  v59:=Tryz.zeroValue193
  t146:=Tryz.underlying233
  a146:=Tryz.isAgg233
  z146:=Tryz.sizeOf233
  v146:=Tryz.zeroValue233
  g1:=by kernel_rfl }
open Go.RowKit Go.Lib in
/-- strings.Cut: "Cut slices s around the first instance of sep, returning the text before and after sep. The found result reports whether sep appears in s. If sep does not appear in s, cut returns s, "", false.": IT RETURNS 'Lib.cut s sep';the world is as it was but for the count of draws. (LAID: no walk: one application.) -/
theorem Tryz.strings_Cut(s sep:ByteArray)(m:Int)(w:World)(hs:s.size<4294967281)(hm:w.cell? ⟨0,0,none⟩=some (.int .i64 m)):
    Calls Tryz.prog 150 #[.string s,.string sep] w fun e w'=>e=.returned (.tuple #[.string ⟨(Lib.cut s.data.toList sep.data.toList).1.toArray⟩,.string ⟨(Lib.cut s.data.toList sep.data.toList).2.1.toArray⟩,.bool (Lib.cut s.data.toList sep.data.toList).2.2])∧∃n,w'=w.drewN n:=Any.strings_Cut Tryz.lays145 s sep m w hs hm
def Tryz.lays99_ren:Go.Shelf.Ren:=⟨fun|99=>74|206=>112|n=>n,fun|9=>9|4=>4|3=>3|n=>n,fun|n=>n⟩
theorem Tryz.lays99:Go.Proofs.Lays.n99 Tryz.prog Tryz.lays99_ren:={
  mixed:=by kernel_rfl
  f99:=Tryz.func74.trans (congrArg some (by kernel_rfl))
  f206:=Tryz.func112.trans (congrArg some (by kernel_rfl))
  t3:=Tryz.underlying3
  a3:=Tryz.isAgg3
  z3:=Tryz.sizeOf3
  v3:=Tryz.zeroValue3
  t4:=Tryz.underlying4
  a4:=Tryz.isAgg4
  z4:=Tryz.sizeOf4
  v4:=Tryz.zeroValue4
  t9:=Tryz.underlying9
  a9:=Tryz.isAgg9
  z9:=Tryz.sizeOf9
  v9:=Tryz.zeroValue9 }
open Go.RowKit Go.Lib in
/-- strings.HasPrefix: "HasPrefix reports whether the string s begins with prefix.": IT RETURNS 'Lib.hasPrefix s prefix';the world is as it was. (LAID: no walk: one application.) -/
theorem Tryz.strings_HasPrefix(s p:ByteArray)(w:World):
    Calls Tryz.prog 74 #[.string s,.string p] w fun e w'=>e=.returned (.bool (Lib.hasPrefix s.data.toList p.data.toList))∧w'=w:=Any.strings_HasPrefix Tryz.lays99 s p w
def Tryz.lays105_ren:Go.Shelf.Ren:=⟨fun|105=>143|212=>163|99=>74|165=>164|166=>161|170=>165|169=>162|263=>188|264=>189|206=>112|240=>187|241=>190|276=>205|277=>206|n=>n,fun|9=>9|3=>3|4=>4|20=>20|0=>0|46=>210|109=>211|5=>5|72=>204|76=>208|51=>232|146=>233|53=>177|148=>235|70=>201|37=>202|75=>207|127=>231|164=>252|80=>188|n=>n,fun|n=>n⟩
theorem Tryz.lays105:Go.Proofs.Lays.n105 Tryz.prog Tryz.lays105_ren:={
  mixed:=by kernel_rfl
  f99:=Tryz.func74.trans (congrArg some (by kernel_rfl))
  f105:=Tryz.func143.trans (congrArg some (by kernel_rfl))
  f165:=Tryz.func164.trans (congrArg some (by kernel_rfl))
  f166:=Tryz.func161.trans (congrArg some (by kernel_rfl))
  f169:=Tryz.func162.trans (congrArg some (by kernel_rfl))
  f170:=Tryz.func165.trans (congrArg some (by kernel_rfl))
  f206:=Tryz.func112.trans (congrArg some (by kernel_rfl))
  f212:=Tryz.func163.trans (congrArg some (by kernel_rfl))
  f240:=Tryz.func187.trans (congrArg some (by kernel_rfl))
  f241:=Tryz.func190.trans (congrArg some (by kernel_rfl))
  f263:=Tryz.func188.trans (congrArg some (by kernel_rfl))
  f264:=Tryz.func189.trans (congrArg some (by kernel_rfl))
  f276:=Tryz.func205.trans (congrArg some (by kernel_rfl))
  f277:=Tryz.func206.trans (congrArg some (by kernel_rfl))
  t0:=Tryz.underlying0
  a0:=Tryz.isAgg0
  z0:=Tryz.sizeOf0
  v0:=Tryz.zeroValue0
  t3:=Tryz.underlying3
  a3:=Tryz.isAgg3
  z3:=Tryz.sizeOf3
  v3:=Tryz.zeroValue3
  t4:=Tryz.underlying4
  a4:=Tryz.isAgg4
  z4:=Tryz.sizeOf4
  v4:=Tryz.zeroValue4
  t5:=Tryz.underlying5
  a5:=Tryz.isAgg5
  z5:=Tryz.sizeOf5
  v5:=Tryz.zeroValue5
  t9:=Tryz.underlying9
  a9:=Tryz.isAgg9
  z9:=Tryz.sizeOf9
  v9:=Tryz.zeroValue9
  t20:=Tryz.underlying20
  a20:=Tryz.isAgg20
  z20:=Tryz.sizeOf20
  v20:=Tryz.zeroValue20
  t37:=Tryz.underlying202
  a37:=Tryz.isAgg202
  z37:=Tryz.sizeOf202
  v37:=Tryz.zeroValue202
  t46:=Tryz.underlying210
  a46:=Tryz.isAgg210
  z46:=Tryz.sizeOf210
  v46:=Tryz.zeroValue210
  t51:=Tryz.underlying232
  a51:=Tryz.isAgg232
  z51:=Tryz.sizeOf232
  v51:=Tryz.zeroValue232
  t53:=Tryz.underlying177
  a53:=Tryz.isAgg177
  z53:=Tryz.sizeOf177
  v53:=Tryz.zeroValue177
  t70:=Tryz.underlying201
  a70:=Tryz.isAgg201
  z70:=Tryz.sizeOf201
  v70:=Tryz.zeroValue201
  t72:=Tryz.underlying204
  a72:=Tryz.isAgg204
  z72:=Tryz.sizeOf204
  v72:=Tryz.zeroValue204
  t75:=Tryz.underlying207
  a75:=Tryz.isAgg207
  z75:=Tryz.sizeOf207
  v75:=Tryz.zeroValue207
  t76:=Tryz.underlying208
  a76:=Tryz.isAgg208
  z76:=Tryz.sizeOf208
  v76:=Tryz.zeroValue208
  t109:=Tryz.underlying211
  a109:=Tryz.isAgg211
  z109:=Tryz.sizeOf211
  v109:=Tryz.zeroValue211
  t127:=Tryz.underlying231
  a127:=Tryz.isAgg231
  z127:=Tryz.sizeOf231
  v127:=Tryz.zeroValue231
  t146:=Tryz.underlying233
  a146:=Tryz.isAgg233
  z146:=Tryz.sizeOf233
  v146:=Tryz.zeroValue233
  t148:=Tryz.underlying235
  a148:=Tryz.isAgg235
  z148:=Tryz.sizeOf235
  v148:=Tryz.zeroValue235
  t164:=Tryz.underlying252
  a164:=Tryz.isAgg252
  z164:=Tryz.sizeOf252
  v164:=Tryz.zeroValue252 }
theorem Tryz.Builder_Extra_105:Builder.Extra Tryz.prog Tryz.lays105_ren:={
  sizeBuilder:=by kernel_rfl
  liesBuilder:=by kernel_rfl
  t5:=Tryz.underlying5
  a5:=Tryz.isAgg5
  z5:=Tryz.sizeOf5
  v5:=Tryz.zeroValue5
  infoByte:=by kernel_rfl
  cellsByte:=by kernel_rfl
  sizeByte:=by kernel_rfl
  neB5:=by decide }
open Go.RowKit Go.Lib in
/-- **strings.Repeat: count≥0,the result within one allocation: count copies of s.** (LAID: no walk: one application.) -/
theorem Tryz.strings_Repeat(s:ByteArray)(c:Nat)(w:World)(hc:c≤9223372036854775807)(hlen:s.size * c≤140737488355328):
    Calls Tryz.prog 143 #[.string s,.int .i64 c] w fun e w'=>e=.returned (.string ⟨(Lib.repeatL s.data.toList c).toArray⟩)∧Below w.heap.size w w':=Any.strings_Repeat Tryz.lays105 Tryz.Builder_Extra_105 s c w hc hlen
end Go.Proofs
