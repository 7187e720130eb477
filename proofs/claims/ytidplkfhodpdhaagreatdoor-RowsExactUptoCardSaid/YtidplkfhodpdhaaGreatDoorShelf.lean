/-
  DERIVED: THE SHELF's CONTRACTS AT THIS DUMP, IN PLAIN WORDS (tools/lay-plain.mjs out of 'YtidplkfhodpdhaaGreatDoorShelfTry.lean', which tools/lay-shelf.mjs wrote): THE SAME DECLARATIONS UNDER THE SAME NAMES: 'import', 'namespace', 'open', 'def', 'theorem' AND NOTHING ELSE: no command of the shelf's: FOR A HAND-IN. Each laying: the table of numbers ('.._ren') and one theorem, a field a fact of the dump's own or the kernel's comparison; each contract: ONE APPLICATION.
-/
import Derived.Shelf.Strings.Builder1
import Derived.Shelf.Strings.Builder2
import Derived.Shelf.Strings.Trim
import Derived.Shelf.Small.Utf8
import Derived.Shelf.Small.Strs
import Derived.Shelf.Strings.BuilderF
import Derived.Shelf.Strconv.Itoa0
import Derived.Shelf.Strconv.Itoa1
import Derived.Shelf.LaysM
import Derived.Shelf.Strconv.Itoa2
import Derived.Shelf.Strconv.Itoa3
import Derived.Shelf.Strconv.Itoa4
import Derived.Ground.MpProg
import Derived.Shelf.Pu.ParseUintPublic10
import Derived.Shelf.Pu.ErrVarParseUint
import Derived.Shelf.Strings.Search1
import Derived.Shelf.Strings.Search2
import Derived.Shelf.Strings.Cut
import Derived.Shelf.Strings.Shaped
import Derived.Shelf.Sort.Plain
import Derived.Shelf.Strings.Prefix
import Derived.Shelf.Strings.Runes
import Derived.Shelf.Strings.AsciiSet
import Derived.Shelf.Bits.Mul64
import Derived.Shelf.Strings.Repeat
import Derived.Shelf.Unicode.DecodeSlow
import Derived.Shelf.Slices.In.SortNone
import Derived.Test.YtidplkfhodpdhaaGreatDoorProg
namespace Go.Proofs
open Go.Shelf
def Tryz.lays161_ren:Go.Shelf.Ren:=⟨fun|161=>197|231=>211|227=>213|233=>214|235=>216|228=>232|197=>233|151=>234|260=>248|152=>249|137=>254|119=>255|224=>230|225=>229|217=>228|266=>246|n=>n,fun|9=>9|4=>4|3=>3|5=>5|117=>240|116=>239|0=>0|124=>243|105=>254|21=>21|119=>273|46=>156|139=>276|138=>275|n=>n,fun|3=>6|4=>7|n=>n⟩
theorem Tryz.lays161:Go.Proofs.Lays.n161 Tryz.prog Tryz.lays161_ren:={
  mixed:=by kernel_rfl
  f119:=Tryz.func255.trans (congrArg some (by kernel_rfl))
  f137:=Tryz.func254.trans (congrArg some (by kernel_rfl))
  f151:=Tryz.func234.trans (congrArg some (by kernel_rfl))
  f152:=Tryz.func249.trans (congrArg some (by kernel_rfl))
  f161:=Tryz.func197.trans (congrArg some (by kernel_rfl))
  f197:=Tryz.func233.trans (congrArg some (by kernel_rfl))
  f217:=Tryz.func228.trans (congrArg some (by kernel_rfl))
  f224:=Tryz.func230.trans (congrArg some (by kernel_rfl))
  f225:=Tryz.func229.trans (congrArg some (by kernel_rfl))
  f227:=Tryz.func213.trans (congrArg some (by kernel_rfl))
  f228:=Tryz.func232.trans (congrArg some (by kernel_rfl))
  f231:=Tryz.func211.trans (congrArg some (by kernel_rfl))
  f233:=Tryz.func214.trans (congrArg some (by kernel_rfl))
  f235:=Tryz.func216.trans (congrArg some (by kernel_rfl))
  f260:=Tryz.func248.trans (congrArg some (by kernel_rfl))
  f266:=Tryz.func246.trans (congrArg some (by kernel_rfl))
  t0:=Tryz.underlying0
  a0:=Tryz.isAgg0
  z0:=Tryz.sizeOf0
  v0:=Tryz.zeroValue0
  t3:=Tryz.underlying3
  a3:=Tryz.isAgg3
  z3:=Tryz.sizeOf3
  v3:=Tryz.zeroValue3
  t4:=Tryz.underlying4
  a4:=Tryz.isAgg4
  z4:=Tryz.sizeOf4
  v4:=Tryz.zeroValue4
  t5:=Tryz.underlying5
  a5:=Tryz.isAgg5
  z5:=Tryz.sizeOf5
  v5:=Tryz.zeroValue5
  t9:=Tryz.underlying9
  a9:=Tryz.isAgg9
  z9:=Tryz.sizeOf9
  v9:=Tryz.zeroValue9
  t21:=Tryz.underlying21
  a21:=Tryz.isAgg21
  z21:=Tryz.sizeOf21
  v21:=Tryz.zeroValue21
  t46:=Tryz.underlying156
  a46:=Tryz.isAgg156
  z46:=Tryz.sizeOf156
  v46:=Tryz.zeroValue156
  t105:=Tryz.underlying254
  a105:=Tryz.isAgg254
  z105:=Tryz.sizeOf254
  v105:=Tryz.zeroValue254
  t116:=Tryz.underlying239
  a116:=Tryz.isAgg239
  z116:=Tryz.sizeOf239
  t117:=Tryz.underlying240
  a117:=Tryz.isAgg240
  z117:=Tryz.sizeOf240
  v117:=Tryz.zeroValue240
  t119:=Tryz.underlying273
  a119:=Tryz.isAgg273
  z119:=Tryz.sizeOf273
  t124:=Tryz.underlying243
  a124:=Tryz.isAgg243
  z124:=Tryz.sizeOf243
  v124:=Tryz.zeroValue243
  t138:=Tryz.underlying275
  a138:=Tryz.isAgg275
  z138:=Tryz.sizeOf275
  v138:=Tryz.zeroValue275
  t139:=Tryz.underlying276
  a139:=Tryz.isAgg276
  z139:=Tryz.sizeOf276
  v139:=Tryz.zeroValue276
  g3:=by kernel_rfl
  g4:=by kernel_rfl }
open Go.RowKit in
/-- strings.TrimLeft: "TrimLeft returns a slice of the string s with all leading Unicode code points contained in cutset removed.": AT A cutset OF ONE ASCII BYTE. The world is as it was. (LAID: no walk: one application.) -/
theorem Tryz.strings_TrimLeft_one(s:ByteArray)(c:UInt8)(hc:c.toNat<128)(w:World):
    Calls Tryz.prog 197 #[.string s,.string ⟨#[c]⟩] w fun e w'=>e=.returned (.string ⟨(Lib.trimLeftB s.data.toList c).toArray⟩)∧w'=w:=Any.strings_TrimLeft_one Tryz.lays161 s c hc w
def Tryz.lays162_ren:Go.Shelf.Ren:=⟨fun|162=>196|232=>212|227=>213|234=>215|236=>217|228=>232|271=>235|151=>234|120=>250|197=>233|152=>249|260=>248|137=>254|119=>255|224=>230|225=>229|217=>228|266=>246|n=>n,fun|9=>9|4=>4|3=>3|5=>5|117=>240|116=>239|0=>0|124=>243|21=>21|105=>254|46=>156|119=>273|139=>276|138=>275|n=>n,fun|3=>6|4=>7|n=>n⟩
theorem Tryz.lays162:Go.Proofs.Lays.n162 Tryz.prog Tryz.lays162_ren:={
  mixed:=by kernel_rfl
  f119:=Tryz.func255.trans (congrArg some (by kernel_rfl))
  f120:=Tryz.func250.trans (congrArg some (by kernel_rfl))
  f137:=Tryz.func254.trans (congrArg some (by kernel_rfl))
  f151:=Tryz.func234.trans (congrArg some (by kernel_rfl))
  f152:=Tryz.func249.trans (congrArg some (by kernel_rfl))
  f162:=Tryz.func196.trans (congrArg some (by kernel_rfl))
  f197:=Tryz.func233.trans (congrArg some (by kernel_rfl))
  f217:=Tryz.func228.trans (congrArg some (by kernel_rfl))
  f224:=Tryz.func230.trans (congrArg some (by kernel_rfl))
  f225:=Tryz.func229.trans (congrArg some (by kernel_rfl))
  f227:=Tryz.func213.trans (congrArg some (by kernel_rfl))
  f228:=Tryz.func232.trans (congrArg some (by kernel_rfl))
  f232:=Tryz.func212.trans (congrArg some (by kernel_rfl))
  f234:=Tryz.func215.trans (congrArg some (by kernel_rfl))
  f236:=Tryz.func217.trans (congrArg some (by kernel_rfl))
  f260:=Tryz.func248.trans (congrArg some (by kernel_rfl))
  f266:=Tryz.func246.trans (congrArg some (by kernel_rfl))
  f271:=Tryz.func235.trans (congrArg some (by kernel_rfl))
  t0:=Tryz.underlying0
  a0:=Tryz.isAgg0
  z0:=Tryz.sizeOf0
  v0:=Tryz.zeroValue0
  t3:=Tryz.underlying3
  a3:=Tryz.isAgg3
  z3:=Tryz.sizeOf3
  v3:=Tryz.zeroValue3
  t4:=Tryz.underlying4
  a4:=Tryz.isAgg4
  z4:=Tryz.sizeOf4
  v4:=Tryz.zeroValue4
  t5:=Tryz.underlying5
  a5:=Tryz.isAgg5
  z5:=Tryz.sizeOf5
  v5:=Tryz.zeroValue5
  t9:=Tryz.underlying9
  a9:=Tryz.isAgg9
  z9:=Tryz.sizeOf9
  v9:=Tryz.zeroValue9
  t21:=Tryz.underlying21
  a21:=Tryz.isAgg21
  z21:=Tryz.sizeOf21
  v21:=Tryz.zeroValue21
  t46:=Tryz.underlying156
  a46:=Tryz.isAgg156
  z46:=Tryz.sizeOf156
  v46:=Tryz.zeroValue156
  t105:=Tryz.underlying254
  a105:=Tryz.isAgg254
  z105:=Tryz.sizeOf254
  v105:=Tryz.zeroValue254
  t116:=Tryz.underlying239
  a116:=Tryz.isAgg239
  z116:=Tryz.sizeOf239
  t117:=Tryz.underlying240
  a117:=Tryz.isAgg240
  z117:=Tryz.sizeOf240
  v117:=Tryz.zeroValue240
  t119:=Tryz.underlying273
  a119:=Tryz.isAgg273
  z119:=Tryz.sizeOf273
  t124:=Tryz.underlying243
  a124:=Tryz.isAgg243
  z124:=Tryz.sizeOf243
  v124:=Tryz.zeroValue243
  t138:=Tryz.underlying275
  a138:=Tryz.isAgg275
  z138:=Tryz.sizeOf275
  v138:=Tryz.zeroValue275
  t139:=Tryz.underlying276
  a139:=Tryz.isAgg276
  z139:=Tryz.sizeOf276
  v139:=Tryz.zeroValue276
  g3:=by kernel_rfl
  g4:=by kernel_rfl }
open Go.RowKit in
/-- strings.TrimRight: "TrimRight returns a slice of the string s, with all trailing Unicode code points contained in cutset removed.": AT A cutset OF ONE ASCII BYTE. The world is as it was. (LAID: no walk: one application.) -/
theorem Tryz.strings_TrimRight_one(s:ByteArray)(c:UInt8)(hc:c.toNat<128)(w:World)(hs:s.size≤9223372036854775807):
    Calls Tryz.prog 196 #[.string s,.string ⟨#[c]⟩] w fun e w'=>e=.returned (.string ⟨(Lib.trimRightB s.data.toList c).toArray⟩)∧w'=w:=Any.strings_TrimRight_one Tryz.lays162 s c hc w hs
def Tryz.lays160_ren:Go.Shelf.Ren:=⟨fun|160=>195|232=>212|231=>211|227=>213|234=>215|233=>214|236=>217|235=>216|228=>232|271=>235|151=>234|197=>233|120=>250|152=>249|260=>248|137=>254|119=>255|224=>230|225=>229|217=>228|266=>246|n=>n,fun|9=>9|4=>4|3=>3|5=>5|117=>240|116=>239|0=>0|124=>243|21=>21|105=>254|46=>156|119=>273|139=>276|138=>275|n=>n,fun|3=>6|4=>7|n=>n⟩
theorem Tryz.lays160:Go.Proofs.Lays.n160 Tryz.prog Tryz.lays160_ren:={
  mixed:=by kernel_rfl
  f119:=Tryz.func255.trans (congrArg some (by kernel_rfl))
  f120:=Tryz.func250.trans (congrArg some (by kernel_rfl))
  f137:=Tryz.func254.trans (congrArg some (by kernel_rfl))
  f151:=Tryz.func234.trans (congrArg some (by kernel_rfl))
  f152:=Tryz.func249.trans (congrArg some (by kernel_rfl))
  f160:=Tryz.func195.trans (congrArg some (by kernel_rfl))
  f197:=Tryz.func233.trans (congrArg some (by kernel_rfl))
  f217:=Tryz.func228.trans (congrArg some (by kernel_rfl))
  f224:=Tryz.func230.trans (congrArg some (by kernel_rfl))
  f225:=Tryz.func229.trans (congrArg some (by kernel_rfl))
  f227:=Tryz.func213.trans (congrArg some (by kernel_rfl))
  f228:=Tryz.func232.trans (congrArg some (by kernel_rfl))
  f231:=Tryz.func211.trans (congrArg some (by kernel_rfl))
  f232:=Tryz.func212.trans (congrArg some (by kernel_rfl))
  f233:=Tryz.func214.trans (congrArg some (by kernel_rfl))
  f234:=Tryz.func215.trans (congrArg some (by kernel_rfl))
  f235:=Tryz.func216.trans (congrArg some (by kernel_rfl))
  f236:=Tryz.func217.trans (congrArg some (by kernel_rfl))
  f260:=Tryz.func248.trans (congrArg some (by kernel_rfl))
  f266:=Tryz.func246.trans (congrArg some (by kernel_rfl))
  f271:=Tryz.func235.trans (congrArg some (by kernel_rfl))
  t0:=Tryz.underlying0
  a0:=Tryz.isAgg0
  z0:=Tryz.sizeOf0
  v0:=Tryz.zeroValue0
  t3:=Tryz.underlying3
  a3:=Tryz.isAgg3
  z3:=Tryz.sizeOf3
  v3:=Tryz.zeroValue3
  t4:=Tryz.underlying4
  a4:=Tryz.isAgg4
  z4:=Tryz.sizeOf4
  v4:=Tryz.zeroValue4
  t5:=Tryz.underlying5
  a5:=Tryz.isAgg5
  z5:=Tryz.sizeOf5
  v5:=Tryz.zeroValue5
  t9:=Tryz.underlying9
  a9:=Tryz.isAgg9
  z9:=Tryz.sizeOf9
  v9:=Tryz.zeroValue9
  t21:=Tryz.underlying21
  a21:=Tryz.isAgg21
  z21:=Tryz.sizeOf21
  v21:=Tryz.zeroValue21
  t46:=Tryz.underlying156
  a46:=Tryz.isAgg156
  z46:=Tryz.sizeOf156
  v46:=Tryz.zeroValue156
  t105:=Tryz.underlying254
  a105:=Tryz.isAgg254
  z105:=Tryz.sizeOf254
  v105:=Tryz.zeroValue254
  t116:=Tryz.underlying239
  a116:=Tryz.isAgg239
  z116:=Tryz.sizeOf239
  t117:=Tryz.underlying240
  a117:=Tryz.isAgg240
  z117:=Tryz.sizeOf240
  v117:=Tryz.zeroValue240
  t119:=Tryz.underlying273
  a119:=Tryz.isAgg273
  z119:=Tryz.sizeOf273
  t124:=Tryz.underlying243
  a124:=Tryz.isAgg243
  z124:=Tryz.sizeOf243
  v124:=Tryz.zeroValue243
  t138:=Tryz.underlying275
  a138:=Tryz.isAgg275
  z138:=Tryz.sizeOf275
  v138:=Tryz.zeroValue275
  t139:=Tryz.underlying276
  a139:=Tryz.isAgg276
  z139:=Tryz.sizeOf276
  v139:=Tryz.zeroValue276
  g3:=by kernel_rfl
  g4:=by kernel_rfl }
def Tryz.laysM173_ren:Go.Shelf.Ren:=⟨fun|173=>173|246=>192|283=>206|284=>207|285=>208|286=>209|129=>168|317=>224|318=>225|319=>226|320=>227|337=>244|338=>245|n=>n,fun|2=>2|3=>3|9=>9|4=>4|171=>233|0=>0|53=>157|37=>100|5=>5|173=>235|212=>251|51=>190|20=>20|213=>252|46=>156|232=>271|233=>272|n=>n,fun|17=>0|18=>4|19=>5|n=>n⟩
theorem Tryz.laysM173:Go.Proofs.LaysM.n173 Tryz.prog Tryz.laysM173_ren:={
  mixed:=by kernel_rfl
  f129:=Tryz.func168.trans (congrArg some (by kernel_rfl))
  f173:=Tryz.func173.trans (congrArg some (by kernel_rfl))
  f246:=Tryz.func192.trans (congrArg some (by kernel_rfl))
  f283:=Tryz.func206.trans (congrArg some (by kernel_rfl))
  f284:=Tryz.func207.trans (congrArg some (by kernel_rfl))
  f285:=Tryz.func208.trans (congrArg some (by kernel_rfl))
  f286:=Tryz.func209.trans (congrArg some (by kernel_rfl))
  f317:=Tryz.func224.trans (congrArg some (by kernel_rfl))
  f318:=Tryz.func225.trans (congrArg some (by kernel_rfl))
  f319:=Tryz.func226.trans (congrArg some (by kernel_rfl))
  f320:=Tryz.func227.trans (congrArg some (by kernel_rfl))
  f337:=Tryz.func244.trans (congrArg some (by kernel_rfl))
  f338:=Tryz.func245.trans (congrArg some (by kernel_rfl))
  t0:=Tryz.underlying0
  a0:=Tryz.isAgg0
  z0:=Tryz.sizeOf0
  v0:=Tryz.zeroValue0
  t2:=Tryz.underlying2
  a2:=Tryz.isAgg2
  z2:=Tryz.sizeOf2
  v2:=Tryz.zeroValue2
  t3:=Tryz.underlying3
  a3:=Tryz.isAgg3
  z3:=Tryz.sizeOf3
  v3:=Tryz.zeroValue3
  t4:=Tryz.underlying4
  a4:=Tryz.isAgg4
  z4:=Tryz.sizeOf4
  v4:=Tryz.zeroValue4
  t5:=Tryz.underlying5
  a5:=Tryz.isAgg5
  z5:=Tryz.sizeOf5
  v5:=Tryz.zeroValue5
  t9:=Tryz.underlying9
  a9:=Tryz.isAgg9
  z9:=Tryz.sizeOf9
  v9:=Tryz.zeroValue9
  t20:=Tryz.underlying20
  a20:=Tryz.isAgg20
  z20:=Tryz.sizeOf20
  v20:=Tryz.zeroValue20
  t37:=Tryz.underlying100
  a37:=Tryz.isAgg100
  z37:=Tryz.sizeOf100
  v37:=Tryz.zeroValue100
  t46:=Tryz.underlying156
  a46:=Tryz.isAgg156
  z46:=Tryz.sizeOf156
  v46:=Tryz.zeroValue156
  t51:=Tryz.underlying190
  a51:=Tryz.isAgg190
  z51:=Tryz.sizeOf190
  v51:=Tryz.zeroValue190
  t53:=Tryz.underlying157
  a53:=Tryz.isAgg157
  z53:=Tryz.sizeOf157
  v53:=Tryz.zeroValue157
  t171:=Tryz.underlying233
  a171:=Tryz.isAgg233
  z171:=Tryz.sizeOf233
  v171:=Tryz.zeroValue233
  t173:=Tryz.underlying235
  a173:=Tryz.isAgg235
  z173:=Tryz.sizeOf235
  v173:=Tryz.zeroValue235
  t212:=Tryz.underlying251
  a212:=Tryz.isAgg251
  z212:=Tryz.sizeOf251
  v212:=Tryz.zeroValue251
  t213:=Tryz.underlying252
  a213:=Tryz.isAgg252
  z213:=Tryz.sizeOf252
  t232:=Tryz.underlying271
  a232:=Tryz.isAgg271
  z232:=Tryz.sizeOf271
  v232:=Tryz.zeroValue271
  t233:=Tryz.underlying272
  a233:=Tryz.isAgg272
  z233:=Tryz.sizeOf272
  v233:=Tryz.zeroValue272
  g17:=by kernel_rfl
  g18:=by kernel_rfl
  g19:=by kernel_rfl
  i0:=by kernel_rfl
  i2:=by kernel_rfl
  i3:=by kernel_rfl
  i4:=by kernel_rfl
  i5:=by kernel_rfl
  i9:=by kernel_rfl
  i20:=by kernel_rfl
  i37:=by kernel_rfl
  i46:=by kernel_rfl
  i51:=by kernel_rfl
  i53:=by kernel_rfl
  i171:=by kernel_rfl
  i173:=by kernel_rfl
  i212:=by kernel_rfl
  i232:=by kernel_rfl
  i233:=by kernel_rfl
  m17:=by kernel_rfl
  m18:=by kernel_rfl
  m19:=by kernel_rfl }
open Go.RowKit Go.Sort Go.Lib in
/-- strconv.FormatInt: "FormatInt returns the string representation of i in the given base": AT BASE 10: i's decimal numeral,for every int64. (LAID: no walk: one application.) -/
theorem Tryz.strconv_FormatInt_10(n:Int)(h0:-9223372036854775808≤n)(h1:n≤9223372036854775807)(w:World)(htab:Lib.TabIs Tryz.prog w "internal/strconv.uint64pow10" .u64 Lib.pow10Tab):
    Calls Tryz.prog 173 #[.int .i64 n,.int .i64 10] w fun e w'=>e=.returned (.string ⟨(Lib.itoa n).toArray⟩)∧∃k os,w'=grow (w.drewN k) os:=Any.strconv_FormatInt_10 Tryz.laysM173 n h0 h1 w htab
def Tryz.lays145_ren:Go.Shelf.Ren:=⟨fun|145=>179|220=>194|219=>210|217=>228|225=>229|224=>230|267=>231|266=>246|314=>247|n=>n,fun|9=>9|4=>4|59=>201|3=>3|5=>5|46=>156|146=>245|51=>190|n=>n,fun|1=>1|n=>n⟩
theorem Tryz.lays145:Go.Proofs.Lays.n145 Tryz.prog Tryz.lays145_ren:={
  mixed:=by kernel_rfl
  f145:=Tryz.func179.trans (congrArg some (by kernel_rfl))
  f217:=Tryz.func228.trans (congrArg some (by kernel_rfl))
  f219:=Tryz.func210.trans (congrArg some (by kernel_rfl))
  f220:=Tryz.func194.trans (congrArg some (by kernel_rfl))
  f224:=Tryz.func230.trans (congrArg some (by kernel_rfl))
  f225:=Tryz.func229.trans (congrArg some (by kernel_rfl))
  f266:=Tryz.func246.trans (congrArg some (by kernel_rfl))
  f267:=Tryz.func231.trans (congrArg some (by kernel_rfl))
  f314:=Tryz.func247.trans (congrArg some (by kernel_rfl))
  t3:=Tryz.underlying3
  a3:=Tryz.isAgg3
  z3:=Tryz.sizeOf3
  v3:=Tryz.zeroValue3
  t4:=Tryz.underlying4
  a4:=Tryz.isAgg4
  z4:=Tryz.sizeOf4
  v4:=Tryz.zeroValue4
  t5:=Tryz.underlying5
  a5:=Tryz.isAgg5
  z5:=Tryz.sizeOf5
  v5:=Tryz.zeroValue5
  t9:=Tryz.underlying9
  a9:=Tryz.isAgg9
  z9:=Tryz.sizeOf9
  v9:=Tryz.zeroValue9
  t46:=Tryz.underlying156
  a46:=Tryz.isAgg156
  z46:=Tryz.sizeOf156
  v46:=Tryz.zeroValue156
  t51:=Tryz.underlying190
  a51:=Tryz.isAgg190
  z51:=Tryz.sizeOf190
  v51:=Tryz.zeroValue190
  t59:=Tryz.underlying201
  a59:=Tryz.isAgg201
  z59:=Tryz.sizeOf201
  v59:=Tryz.zeroValue201
  t146:=Tryz.underlying245
  a146:=Tryz.isAgg245
  z146:=Tryz.sizeOf245
  v146:=Tryz.zeroValue245
  g1:=by kernel_rfl }
open Go.RowKit Go.Lib in
/-- strings.Cut: "Cut slices s around the first instance of sep, returning the text before and after sep. The found result reports whether sep appears in s. If sep does not appear in s, cut returns s, "", false.": IT RETURNS 'Lib.cut s sep';the world is as it was but for the count of draws. (LAID: no walk: one application.) -/
theorem Tryz.strings_Cut(s sep:ByteArray)(m:Int)(w:World)(hs:s.size<4294967281)(hm:w.cell? ⟨1,0,none⟩=some (.int .i64 m)):
    Calls Tryz.prog 179 #[.string s,.string sep] w fun e w'=>e=.returned (.tuple #[.string ⟨(Lib.cut s.data.toList sep.data.toList).1.toArray⟩,.string ⟨(Lib.cut s.data.toList sep.data.toList).2.1.toArray⟩,.bool (Lib.cut s.data.toList sep.data.toList).2.2])∧∃n,w'=w.drewN n:=Any.strings_Cut Tryz.lays145 s sep m w hs hm
def Tryz.lays99_ren:Go.Shelf.Ren:=⟨fun|99=>178|206=>193|n=>n,fun|9=>9|4=>4|3=>3|n=>n,fun|n=>n⟩
theorem Tryz.lays99:Go.Proofs.Lays.n99 Tryz.prog Tryz.lays99_ren:={
  mixed:=by kernel_rfl
  f99:=Tryz.func178.trans (congrArg some (by kernel_rfl))
  f206:=Tryz.func193.trans (congrArg some (by kernel_rfl))
  t3:=Tryz.underlying3
  a3:=Tryz.isAgg3
  z3:=Tryz.sizeOf3
  v3:=Tryz.zeroValue3
  t4:=Tryz.underlying4
  a4:=Tryz.isAgg4
  z4:=Tryz.sizeOf4
  v4:=Tryz.zeroValue4
  t9:=Tryz.underlying9
  a9:=Tryz.isAgg9
  z9:=Tryz.sizeOf9
  v9:=Tryz.zeroValue9 }
open Go.RowKit Go.Lib in
/-- strings.HasPrefix: "HasPrefix reports whether the string s begins with prefix.": IT RETURNS 'Lib.hasPrefix s prefix';the world is as it was. (LAID: no walk: one application.) -/
theorem Tryz.strings_HasPrefix(s p:ByteArray)(w:World):
    Calls Tryz.prog 178 #[.string s,.string p] w fun e w'=>e=.returned (.bool (Lib.hasPrefix s.data.toList p.data.toList))∧w'=w:=Any.strings_HasPrefix Tryz.lays99 s p w
def Tryz.lays105_ren:Go.Shelf.Ren:=⟨fun|105=>191|212=>201|99=>178|165=>202|166=>203|170=>204|169=>205|263=>220|264=>221|206=>193|240=>222|241=>223|276=>242|277=>243|n=>n,fun|9=>9|3=>3|4=>4|20=>20|0=>0|46=>156|109=>223|5=>5|72=>227|76=>229|51=>190|146=>245|53=>157|148=>247|70=>225|37=>100|75=>220|127=>249|164=>262|80=>232|n=>n,fun|n=>n⟩
theorem Tryz.lays105:Go.Proofs.Lays.n105 Tryz.prog Tryz.lays105_ren:={
  mixed:=by kernel_rfl
  f99:=Tryz.func178.trans (congrArg some (by kernel_rfl))
  f105:=Tryz.func191.trans (congrArg some (by kernel_rfl))
  f165:=Tryz.func202.trans (congrArg some (by kernel_rfl))
  f166:=Tryz.func203.trans (congrArg some (by kernel_rfl))
  f169:=Tryz.func205.trans (congrArg some (by kernel_rfl))
  f170:=Tryz.func204.trans (congrArg some (by kernel_rfl))
  f206:=Tryz.func193.trans (congrArg some (by kernel_rfl))
  f212:=Tryz.func201.trans (congrArg some (by kernel_rfl))
  f240:=Tryz.func222.trans (congrArg some (by kernel_rfl))
  f241:=Tryz.func223.trans (congrArg some (by kernel_rfl))
  f263:=Tryz.func220.trans (congrArg some (by kernel_rfl))
  f264:=Tryz.func221.trans (congrArg some (by kernel_rfl))
  f276:=Tryz.func242.trans (congrArg some (by kernel_rfl))
  f277:=Tryz.func243.trans (congrArg some (by kernel_rfl))
  t0:=Tryz.underlying0
  a0:=Tryz.isAgg0
  z0:=Tryz.sizeOf0
  v0:=Tryz.zeroValue0
  t3:=Tryz.underlying3
  a3:=Tryz.isAgg3
  z3:=Tryz.sizeOf3
  v3:=Tryz.zeroValue3
  t4:=Tryz.underlying4
  a4:=Tryz.isAgg4
  z4:=Tryz.sizeOf4
  v4:=Tryz.zeroValue4
  t5:=Tryz.underlying5
  a5:=Tryz.isAgg5
  z5:=Tryz.sizeOf5
  v5:=Tryz.zeroValue5
  t9:=Tryz.underlying9
  a9:=Tryz.isAgg9
  z9:=Tryz.sizeOf9
  v9:=Tryz.zeroValue9
  t20:=Tryz.underlying20
  a20:=Tryz.isAgg20
  z20:=Tryz.sizeOf20
  v20:=Tryz.zeroValue20
  t37:=Tryz.underlying100
  a37:=Tryz.isAgg100
  z37:=Tryz.sizeOf100
  v37:=Tryz.zeroValue100
  t46:=Tryz.underlying156
  a46:=Tryz.isAgg156
  z46:=Tryz.sizeOf156
  v46:=Tryz.zeroValue156
  t51:=Tryz.underlying190
  a51:=Tryz.isAgg190
  z51:=Tryz.sizeOf190
  v51:=Tryz.zeroValue190
  t53:=Tryz.underlying157
  a53:=Tryz.isAgg157
  z53:=Tryz.sizeOf157
  v53:=Tryz.zeroValue157
  t70:=Tryz.underlying225
  a70:=Tryz.isAgg225
  z70:=Tryz.sizeOf225
  v70:=Tryz.zeroValue225
  t72:=Tryz.underlying227
  a72:=Tryz.isAgg227
  z72:=Tryz.sizeOf227
  v72:=Tryz.zeroValue227
  t75:=Tryz.underlying220
  a75:=Tryz.isAgg220
  z75:=Tryz.sizeOf220
  v75:=Tryz.zeroValue220
  t76:=Tryz.underlying229
  a76:=Tryz.isAgg229
  z76:=Tryz.sizeOf229
  v76:=Tryz.zeroValue229
  t109:=Tryz.underlying223
  a109:=Tryz.isAgg223
  z109:=Tryz.sizeOf223
  v109:=Tryz.zeroValue223
  t127:=Tryz.underlying249
  a127:=Tryz.isAgg249
  z127:=Tryz.sizeOf249
  v127:=Tryz.zeroValue249
  t146:=Tryz.underlying245
  a146:=Tryz.isAgg245
  z146:=Tryz.sizeOf245
  v146:=Tryz.zeroValue245
  t148:=Tryz.underlying247
  a148:=Tryz.isAgg247
  z148:=Tryz.sizeOf247
  v148:=Tryz.zeroValue247
  t164:=Tryz.underlying262
  a164:=Tryz.isAgg262
  z164:=Tryz.sizeOf262
  v164:=Tryz.zeroValue262 }
theorem Tryz.Builder_Extra_105:Builder.Extra Tryz.prog Tryz.lays105_ren:={
  sizeBuilder:=by kernel_rfl
  liesBuilder:=by kernel_rfl
  t5:=Tryz.underlying5
  a5:=Tryz.isAgg5
  z5:=Tryz.sizeOf5
  v5:=Tryz.zeroValue5
  infoByte:=by kernel_rfl
  cellsByte:=by kernel_rfl
  sizeByte:=by kernel_rfl
  neB5:=by decide }
open Go.RowKit Go.Lib in
/-- **strings.Repeat: count≥0,the result within one allocation: count copies of s.** (LAID: no walk: one application.) -/
theorem Tryz.strings_Repeat(s:ByteArray)(c:Nat)(w:World)(hc:c≤9223372036854775807)(hlen:s.size * c≤140737488355328):
    Calls Tryz.prog 191 #[.string s,.int .i64 c] w fun e w'=>e=.returned (.string ⟨(Lib.repeatL s.data.toList c).toArray⟩)∧Below w.heap.size w w':=Any.strings_Repeat Tryz.lays105 Tryz.Builder_Extra_105 s c w hc hlen
end Go.Proofs
