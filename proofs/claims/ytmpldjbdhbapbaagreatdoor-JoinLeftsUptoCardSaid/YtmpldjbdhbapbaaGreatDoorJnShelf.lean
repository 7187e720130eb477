/-
  DERIVED: THE SHELF's CONTRACTS AT THIS DUMP, IN PLAIN WORDS (tools/lay-plain.mjs out of 'YtmpldjbdhbapbaaGreatDoorShelfTry.lean', which tools/lay-shelf.mjs wrote): THE SAME DECLARATIONS UNDER THE SAME NAMES: 'import', 'namespace', 'open', 'def', 'theorem' AND NOTHING ELSE: no command of the shelf's: FOR A HAND-IN. Each laying: the table of numbers ('.._ren') and one theorem, a field a fact of the dump's own or the kernel's comparison; each contract: ONE APPLICATION.
-/
import Derived.Shelf.Strings.Builder1
import Derived.Shelf.Strings.Builder2
import Derived.Shelf.Strings.Trim
import Derived.Shelf.Small.Utf8
import Derived.Shelf.Small.Bits
import Derived.Shelf.Small.Strs
import Derived.Shelf.Strings.BuilderF
import Derived.Shelf.Strconv.Itoa0
import Derived.Shelf.Strconv.Itoa1
import Derived.Shelf.LaysM
import Derived.Shelf.Strconv.Itoa2
import Derived.Shelf.Strconv.Itoa3
import Derived.Shelf.Strconv.Itoa4
import Derived.Shelf.Strconv.Clone
import Derived.Shelf.Strconv.Lower
import Derived.Ground.MpProg
import Derived.Shelf.Pu.ParseUintPublic10
import Derived.Shelf.Pu.ErrVarParseUint
import Derived.Shelf.Strings.Search1
import Derived.Shelf.Strings.Search2
import Derived.Shelf.Strings.Search3
import Derived.Shelf.Strings.Cut
import Derived.Shelf.Strings.Shaped
import Derived.Shelf.Sort.Plain
import Derived.Shelf.Strings.Prefix
import Derived.Shelf.Unicode.Decode
import Derived.Shelf.Strings.Runes
import Derived.Shelf.Strings.AsciiSet
import Derived.Shelf.Bits.Mul64
import Derived.Shelf.Strings.Repeat
import Derived.Shelf.Unicode.DecodeSlow
import Derived.Shelf.Unicode.DecodeAny
import Derived.Shelf.Unicode.DecodeLast
import Derived.Shelf.Slices.Turned
import Derived.Shelf.Slices.Equal
import Derived.Ground.Names2Prog
import Derived.Shelf.Slices.Clone
import Derived.Shelf.Slices.SearchI
import Derived.Shelf.Slices.In.SortNone
import Derived.Ground.SlgnProg
import Derived.Shelf.SlicesG.SearchI
import Derived.Shelf.SlicesE.Clone
import Derived.Test.YtmpldjbdhbapbaaGreatDoorProg
namespace Go.Proofs
open Go.Shelf
def Tryz.lays189_ren:Go.Shelf.Ren:=⟨fun|189=>66|125=>79|257=>78|128=>115|129=>116|294=>106|295=>107|296=>108|297=>109|298=>110|299=>111|216=>112|300=>113|301=>114|328=>159|329=>160|330=>161|331=>162|332=>163|215=>164|343=>191|n=>n,fun|28=>52|3=>3|46=>132|0=>0|51=>195|53=>158|4=>4|183=>187|182=>186|131=>192|5=>5|9=>9|218=>220|222=>224|228=>240|229=>241|n=>n,fun|n=>n⟩
theorem Tryz.lays189:Go.Proofs.Lays.n189 Tryz.prog Tryz.lays189_ren:={
  mixed:=by kernel_rfl
  f125:=Tryz.func79.trans (congrArg some (by kernel_rfl))
  f128:=Tryz.func115.trans (congrArg some (by kernel_rfl))
  f129:=Tryz.func116.trans (congrArg some (by kernel_rfl))
  f189:=Tryz.func66.trans (congrArg some (by kernel_rfl))
  f215:=Tryz.func164.trans (congrArg some (by kernel_rfl))
  f216:=Tryz.func112.trans (congrArg some (by kernel_rfl))
  f257:=Tryz.func78.trans (congrArg some (by kernel_rfl))
  f294:=Tryz.func106.trans (congrArg some (by kernel_rfl))
  f295:=Tryz.func107.trans (congrArg some (by kernel_rfl))
  f296:=Tryz.func108.trans (congrArg some (by kernel_rfl))
  f297:=Tryz.func109.trans (congrArg some (by kernel_rfl))
  f298:=Tryz.func110.trans (congrArg some (by kernel_rfl))
  f299:=Tryz.func111.trans (congrArg some (by kernel_rfl))
  f300:=Tryz.func113.trans (congrArg some (by kernel_rfl))
  f301:=Tryz.func114.trans (congrArg some (by kernel_rfl))
  f328:=Tryz.func159.trans (congrArg some (by kernel_rfl))
  f329:=Tryz.func160.trans (congrArg some (by kernel_rfl))
  f330:=Tryz.func161.trans (congrArg some (by kernel_rfl))
  f331:=Tryz.func162.trans (congrArg some (by kernel_rfl))
  f332:=Tryz.func163.trans (congrArg some (by kernel_rfl))
  f343:=Tryz.func191.trans (congrArg some (by kernel_rfl))
  t0:=Tryz.underlying0
  a0:=Tryz.isAgg0
  z0:=Tryz.sizeOf0
  v0:=Tryz.zeroValue0
  t3:=Tryz.underlying3
  a3:=Tryz.isAgg3
  z3:=Tryz.sizeOf3
  v3:=Tryz.zeroValue3
  t4:=Tryz.underlying4
  a4:=Tryz.isAgg4
  z4:=Tryz.sizeOf4
  v4:=Tryz.zeroValue4
  t5:=Tryz.underlying5
  a5:=Tryz.isAgg5
  z5:=Tryz.sizeOf5
  v5:=Tryz.zeroValue5
  t9:=Tryz.underlying9
  a9:=Tryz.isAgg9
  z9:=Tryz.sizeOf9
  v9:=Tryz.zeroValue9
  t28:=Tryz.underlying52
  a28:=Tryz.isAgg52
  z28:=Tryz.sizeOf52
  v28:=Tryz.zeroValue52
  t46:=Tryz.underlying132
  a46:=Tryz.isAgg132
  z46:=Tryz.sizeOf132
  v46:=Tryz.zeroValue132
  t51:=Tryz.underlying195
  a51:=Tryz.isAgg195
  z51:=Tryz.sizeOf195
  v51:=Tryz.zeroValue195
  t53:=Tryz.underlying158
  a53:=Tryz.isAgg158
  z53:=Tryz.sizeOf158
  v53:=Tryz.zeroValue158
  t131:=Tryz.underlying192
  a131:=Tryz.isAgg192
  z131:=Tryz.sizeOf192
  v131:=Tryz.zeroValue192
  t182:=Tryz.underlying186
  a182:=Tryz.isAgg186
  z182:=Tryz.sizeOf186
  v182:=Tryz.zeroValue186
  t183:=Tryz.underlying187
  a183:=Tryz.isAgg187
  z183:=Tryz.sizeOf187
  v183:=Tryz.zeroValue187
  t218:=Tryz.underlying220
  a218:=Tryz.isAgg220
  z218:=Tryz.sizeOf220
  v218:=Tryz.zeroValue220
  t222:=Tryz.underlying224
  a222:=Tryz.isAgg224
  z222:=Tryz.sizeOf224
  v222:=Tryz.zeroValue224
  t228:=Tryz.underlying240
  a228:=Tryz.isAgg240
  z228:=Tryz.sizeOf240
  v228:=Tryz.zeroValue240
  t229:=Tryz.underlying241
  a229:=Tryz.isAgg241
  z229:=Tryz.sizeOf241
  v229:=Tryz.zeroValue241 }
open Go.Sort Go.RowKit in
theorem Tryz.slices_Sort_int(blk off cap:Nat)(zs:List Int)(w:World)(hH:Holds (Value.int .i64) w blk off zs.toArray)(hblk:blk<w.heap.size)(hsz:zs.length<4611686018427387904):
    Calls Tryz.prog 66 #[.slice (some ⟨blk,off,none⟩) zs.length cap] w fun e w'=>
      e=.returned (.tuple #[])∧∃n os,w'=grow (putRow (Value.int .i64) (Sort.ahead w n) blk off (zs.mergeSort fun x y=>decide (x≤y)).toArray) os:=Any.slices_Sort_int Tryz.lays189 blk off cap zs w hH hblk hsz
open Go.RowKit Go.Sort in
/-- .. and plain. (LAID: no walk: one application.) -/
theorem Tryz.slices_Sort_int_none(p:Option Addr)(cap:Nat)(w:World):
    Calls Tryz.prog 66 #[.slice p 0 cap] w fun e w'=>e=.returned (.tuple #[])∧w'=w:=Any.slices_Sort_int_none Tryz.lays189 p cap w
end Go.Proofs
