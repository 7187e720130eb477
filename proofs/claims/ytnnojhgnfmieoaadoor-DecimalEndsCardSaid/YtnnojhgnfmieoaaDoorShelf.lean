/-
  DERIVED: THE SHELF's CONTRACTS AT THIS DUMP, IN PLAIN WORDS (tools/lay-plain.mjs out of 'YtnnojhgnfmieoaaDoorShelfTry.lean', which tools/lay-shelf.mjs wrote): THE SAME DECLARATIONS UNDER THE SAME NAMES: 'import', 'namespace', 'open', 'def', 'theorem' AND NOTHING ELSE: no command of the shelf's: FOR A HAND-IN. Each laying: the table of numbers ('.._ren') and one theorem, a field a fact of the dump's own or the kernel's comparison; each contract: ONE APPLICATION.
-/
import Derived.Shelf.Strings.Builder1
import Derived.Shelf.Strings.Builder2
import Derived.Shelf.Strings.Trim
import Derived.Shelf.Small.Utf8
import Derived.Shelf.Small.Strs
import Derived.Shelf.Strings.BuilderF
import Derived.Shelf.Strings.BuilderK
import Derived.Shelf.Strings.Builder2Cap
import Derived.Shelf.Strconv.Itoa0
import Derived.Shelf.Strconv.Itoa1
import Derived.Shelf.LaysM
import Derived.Shelf.Strconv.Itoa2
import Derived.Shelf.Strconv.Itoa3
import Derived.Shelf.Strconv.Itoa4
import Derived.Shelf.Strconv.ParseIntEmpty
import Derived.Shelf.Strconv.Clone
import Derived.Shelf.Strconv.SyntaxError
import Derived.Shelf.LaysC
import Derived.Shelf.Strconv.ToError
import Derived.Shelf.Strconv.Lower
import Derived.Shelf.Strconv.ParseUint10
import Derived.Shelf.Strconv.ParseUint10Empty
import Derived.Shelf.Strconv.ParseUint10Any
import Derived.Shelf.Strconv.ParseInt10
import Derived.Shelf.Strconv.RangeError
import Derived.Shelf.Strconv.ToErrorRange
import Derived.Shelf.Strconv.ParseUintEmpty
import Derived.Shelf.Strconv.ParseUint10b64
import Derived.Shelf.Strconv.ParseUint10b32
import Derived.Shelf.Strconv.ParseUint10b16
import Derived.Shelf.Strconv.ParseUint10b8
import Derived.Shelf.Strconv.ParseUint10At
import Derived.Shelf.Strconv.ParseInt10At64
import Derived.Shelf.Strconv.ParseInt10At32
import Derived.Shelf.Strconv.ParseInt10At16
import Derived.Shelf.Strconv.ParseInt10At8
import Derived.Shelf.Strconv.ParseInt10All
import Derived.Shelf.Strconv.ParseIntPublic10
import Derived.Shelf.Strconv.ErrVarParseInt
import Derived.Ground.MpProg
import Derived.Shelf.Pu.ParseUintPublic10
import Derived.Shelf.Pu.ErrVarParseUint
import Derived.Shelf.Strings.Search1
import Derived.Shelf.Strings.Search2
import Derived.Shelf.Strings.Cut
import Derived.Shelf.Strings.Shaped
import Derived.Shelf.Strings.Prefix
import Derived.Shelf.Strings.Runes
import Derived.Shelf.Strings.AsciiSet
import Derived.Shelf.Bits.Mul64
import Derived.Shelf.Strings.Repeat
import Derived.Shelf.Unicode.DecodeSlow
import Derived.Shelf.Unicode.DecodeAny
import Derived.Shelf.Strings.BuilderCap
import Derived.Test.YtnnojhgnfmieoaaDoorProg
namespace Go.Proofs
open Go.Shelf
def Tryd.lays169_ren : Go.Shelf.Ren := ⟨fun | 169 => 45 | n => n, fun | 70 => 66 | 9 => 9 | 0 => 0 | 72 => 69 | 37 => 67 | 127 => 88 | 3 => 3 | 5 => 5 | n => n, fun | n => n⟩
theorem Tryd.lays169 : Go.Proofs.Lays.n169 Tryd.prog Tryd.lays169_ren := {
  mixed := by kernel_rfl
  f169 := Tryd.func45.trans (congrArg some (by kernel_rfl))
  t0 := Tryd.underlying0
  a0 := Tryd.isAgg0
  z0 := Tryd.sizeOf0
  v0 := Tryd.zeroValue0
  t3 := Tryd.underlying3
  a3 := Tryd.isAgg3
  z3 := Tryd.sizeOf3
  v3 := Tryd.zeroValue3
  t9 := Tryd.underlying9
  a9 := Tryd.isAgg9
  z9 := Tryd.sizeOf9
  v9 := Tryd.zeroValue9
  t37 := Tryd.underlying67
  a37 := Tryd.isAgg67
  z37 := Tryd.sizeOf67
  v37 := Tryd.zeroValue67
  t70 := Tryd.underlying66
  a70 := Tryd.isAgg66
  z70 := Tryd.sizeOf66
  v70 := Tryd.zeroValue66
  t72 := Tryd.underlying69
  a72 := Tryd.isAgg69
  z72 := Tryd.sizeOf69
  v72 := Tryd.zeroValue69
  t127 := Tryd.underlying88
  a127 := Tryd.isAgg88
  z127 := Tryd.sizeOf88
  v127 := Tryd.zeroValue88 }
theorem Tryd.Builder_Extra_169 : Builder.Extra Tryd.prog Tryd.lays169_ren := {
  sizeBuilder := by kernel_rfl
  liesBuilder := by kernel_rfl
  t5 := Tryd.underlying5
  a5 := Tryd.isAgg5
  z5 := Tryd.sizeOf5
  v5 := Tryd.zeroValue5
  infoByte := by kernel_rfl
  cellsByte := by kernel_rfl
  sizeByte := by kernel_rfl
  neB5 := by decide }
open Go.RowKit in
/-- (*strings.Builder).String: "String returns the accumulated string.": WHATEVER THE BUILDER HOLDS. (LAID: no walk: one application.) -/
theorem Tryd.Builder_String_any (B b : Nat) (l : List UInt8) (w : World) (h : Lib.IsBuilder 69 5 B b (Lib.byteCells l) w) (hBw : B ≤ w.heap.size) :
    Calls Tryd.prog 45 #[.pointer (some ⟨b, 0, none⟩)] w fun e w' => e = .returned (.string ⟨l.toArray⟩) ∧ Below B w w' := Any.Builder_String_any Tryd.lays169 Tryd.Builder_Extra_169 B b l w h hBw
def Tryd.lays161_ren : Go.Shelf.Ren := ⟨fun | 161 => 42 | 231 => 54 | 227 => 56 | 233 => 57 | 235 => 59 | 228 => 80 | 197 => 81 | 151 => 82 | 260 => 98 | 152 => 99 | 137 => 104 | 119 => 105 | 224 => 78 | 225 => 77 | 217 => 76 | 266 => 96 | n => n, fun | 9 => 9 | 4 => 4 | 3 => 3 | 5 => 5 | 117 => 84 | 116 => 83 | 0 => 0 | 124 => 87 | 105 => 109 | 21 => 21 | 119 => 130 | 46 => 73 | 139 => 133 | 138 => 132 | n => n, fun | 3 => 4 | 4 => 5 | n => n⟩
theorem Tryd.lays161 : Go.Proofs.Lays.n161 Tryd.prog Tryd.lays161_ren := {
  mixed := by kernel_rfl
  f119 := Tryd.func105.trans (congrArg some (by kernel_rfl))
  f137 := Tryd.func104.trans (congrArg some (by kernel_rfl))
  f151 := Tryd.func82.trans (congrArg some (by kernel_rfl))
  f152 := Tryd.func99.trans (congrArg some (by kernel_rfl))
  f161 := Tryd.func42.trans (congrArg some (by kernel_rfl))
  f197 := Tryd.func81.trans (congrArg some (by kernel_rfl))
  f217 := Tryd.func76.trans (congrArg some (by kernel_rfl))
  f224 := Tryd.func78.trans (congrArg some (by kernel_rfl))
  f225 := Tryd.func77.trans (congrArg some (by kernel_rfl))
  f227 := Tryd.func56.trans (congrArg some (by kernel_rfl))
  f228 := Tryd.func80.trans (congrArg some (by kernel_rfl))
  f231 := Tryd.func54.trans (congrArg some (by kernel_rfl))
  f233 := Tryd.func57.trans (congrArg some (by kernel_rfl))
  f235 := Tryd.func59.trans (congrArg some (by kernel_rfl))
  f260 := Tryd.func98.trans (congrArg some (by kernel_rfl))
  f266 := Tryd.func96.trans (congrArg some (by kernel_rfl))
  t0 := Tryd.underlying0
  a0 := Tryd.isAgg0
  z0 := Tryd.sizeOf0
  v0 := Tryd.zeroValue0
  t3 := Tryd.underlying3
  a3 := Tryd.isAgg3
  z3 := Tryd.sizeOf3
  v3 := Tryd.zeroValue3
  t4 := Tryd.underlying4
  a4 := Tryd.isAgg4
  z4 := Tryd.sizeOf4
  v4 := Tryd.zeroValue4
  t5 := Tryd.underlying5
  a5 := Tryd.isAgg5
  z5 := Tryd.sizeOf5
  v5 := Tryd.zeroValue5
  t9 := Tryd.underlying9
  a9 := Tryd.isAgg9
  z9 := Tryd.sizeOf9
  v9 := Tryd.zeroValue9
  t21 := Tryd.underlying21
  a21 := Tryd.isAgg21
  z21 := Tryd.sizeOf21
  v21 := Tryd.zeroValue21
  t46 := Tryd.underlying73
  a46 := Tryd.isAgg73
  z46 := Tryd.sizeOf73
  v46 := Tryd.zeroValue73
  t105 := Tryd.underlying109
  a105 := Tryd.isAgg109
  z105 := Tryd.sizeOf109
  v105 := Tryd.zeroValue109
  t116 := Tryd.underlying83
  a116 := Tryd.isAgg83
  z116 := Tryd.sizeOf83
  t117 := Tryd.underlying84
  a117 := Tryd.isAgg84
  z117 := Tryd.sizeOf84
  v117 := Tryd.zeroValue84
  t119 := Tryd.underlying130
  a119 := Tryd.isAgg130
  z119 := Tryd.sizeOf130
  t124 := Tryd.underlying87
  a124 := Tryd.isAgg87
  z124 := Tryd.sizeOf87
  v124 := Tryd.zeroValue87
  t138 := Tryd.underlying132
  a138 := Tryd.isAgg132
  z138 := Tryd.sizeOf132
  v138 := Tryd.zeroValue132
  t139 := Tryd.underlying133
  a139 := Tryd.isAgg133
  z139 := Tryd.sizeOf133
  v139 := Tryd.zeroValue133
  g3 := by kernel_rfl
  g4 := by kernel_rfl }
open Go.RowKit in
/-- strings.TrimLeft: "TrimLeft returns a slice of the string s with all leading Unicode code points contained in cutset removed.": AT A cutset OF ONE ASCII BYTE. The world is as it was. (LAID: no walk: one application.) -/
theorem Tryd.strings_TrimLeft_one (s : ByteArray) (c : UInt8) (hc : c.toNat < 128) (w : World) :
    Calls Tryd.prog 42 #[.string s, .string ⟨#[c]⟩] w fun e w' => e = .returned (.string ⟨(Lib.trimLeftB s.data.toList c).toArray⟩) ∧ w' = w := Any.strings_TrimLeft_one Tryd.lays161 s c hc w
def Tryd.lays162_ren : Go.Shelf.Ren := ⟨fun | 162 => 41 | 232 => 55 | 227 => 56 | 234 => 58 | 236 => 60 | 228 => 80 | 271 => 83 | 151 => 82 | 120 => 100 | 197 => 81 | 152 => 99 | 260 => 98 | 137 => 104 | 119 => 105 | 224 => 78 | 225 => 77 | 217 => 76 | 266 => 96 | n => n, fun | 9 => 9 | 4 => 4 | 3 => 3 | 5 => 5 | 117 => 84 | 116 => 83 | 0 => 0 | 124 => 87 | 21 => 21 | 105 => 109 | 46 => 73 | 119 => 130 | 139 => 133 | 138 => 132 | n => n, fun | 3 => 4 | 4 => 5 | n => n⟩
theorem Tryd.lays162 : Go.Proofs.Lays.n162 Tryd.prog Tryd.lays162_ren := {
  mixed := by kernel_rfl
  f119 := Tryd.func105.trans (congrArg some (by kernel_rfl))
  f120 := Tryd.func100.trans (congrArg some (by kernel_rfl))
  f137 := Tryd.func104.trans (congrArg some (by kernel_rfl))
  f151 := Tryd.func82.trans (congrArg some (by kernel_rfl))
  f152 := Tryd.func99.trans (congrArg some (by kernel_rfl))
  f162 := Tryd.func41.trans (congrArg some (by kernel_rfl))
  f197 := Tryd.func81.trans (congrArg some (by kernel_rfl))
  f217 := Tryd.func76.trans (congrArg some (by kernel_rfl))
  f224 := Tryd.func78.trans (congrArg some (by kernel_rfl))
  f225 := Tryd.func77.trans (congrArg some (by kernel_rfl))
  f227 := Tryd.func56.trans (congrArg some (by kernel_rfl))
  f228 := Tryd.func80.trans (congrArg some (by kernel_rfl))
  f232 := Tryd.func55.trans (congrArg some (by kernel_rfl))
  f234 := Tryd.func58.trans (congrArg some (by kernel_rfl))
  f236 := Tryd.func60.trans (congrArg some (by kernel_rfl))
  f260 := Tryd.func98.trans (congrArg some (by kernel_rfl))
  f266 := Tryd.func96.trans (congrArg some (by kernel_rfl))
  f271 := Tryd.func83.trans (congrArg some (by kernel_rfl))
  t0 := Tryd.underlying0
  a0 := Tryd.isAgg0
  z0 := Tryd.sizeOf0
  v0 := Tryd.zeroValue0
  t3 := Tryd.underlying3
  a3 := Tryd.isAgg3
  z3 := Tryd.sizeOf3
  v3 := Tryd.zeroValue3
  t4 := Tryd.underlying4
  a4 := Tryd.isAgg4
  z4 := Tryd.sizeOf4
  v4 := Tryd.zeroValue4
  t5 := Tryd.underlying5
  a5 := Tryd.isAgg5
  z5 := Tryd.sizeOf5
  v5 := Tryd.zeroValue5
  t9 := Tryd.underlying9
  a9 := Tryd.isAgg9
  z9 := Tryd.sizeOf9
  v9 := Tryd.zeroValue9
  t21 := Tryd.underlying21
  a21 := Tryd.isAgg21
  z21 := Tryd.sizeOf21
  v21 := Tryd.zeroValue21
  t46 := Tryd.underlying73
  a46 := Tryd.isAgg73
  z46 := Tryd.sizeOf73
  v46 := Tryd.zeroValue73
  t105 := Tryd.underlying109
  a105 := Tryd.isAgg109
  z105 := Tryd.sizeOf109
  v105 := Tryd.zeroValue109
  t116 := Tryd.underlying83
  a116 := Tryd.isAgg83
  z116 := Tryd.sizeOf83
  t117 := Tryd.underlying84
  a117 := Tryd.isAgg84
  z117 := Tryd.sizeOf84
  v117 := Tryd.zeroValue84
  t119 := Tryd.underlying130
  a119 := Tryd.isAgg130
  z119 := Tryd.sizeOf130
  t124 := Tryd.underlying87
  a124 := Tryd.isAgg87
  z124 := Tryd.sizeOf87
  v124 := Tryd.zeroValue87
  t138 := Tryd.underlying132
  a138 := Tryd.isAgg132
  z138 := Tryd.sizeOf132
  v138 := Tryd.zeroValue132
  t139 := Tryd.underlying133
  a139 := Tryd.isAgg133
  z139 := Tryd.sizeOf133
  v139 := Tryd.zeroValue133
  g3 := by kernel_rfl
  g4 := by kernel_rfl }
open Go.RowKit in
/-- strings.TrimRight: "TrimRight returns a slice of the string s, with all trailing Unicode code points contained in cutset removed.": AT A cutset OF ONE ASCII BYTE. The world is as it was. (LAID: no walk: one application.) -/
theorem Tryd.strings_TrimRight_one (s : ByteArray) (c : UInt8) (hc : c.toNat < 128) (w : World) (hs : s.size ≤ 9223372036854775807) :
    Calls Tryd.prog 41 #[.string s, .string ⟨#[c]⟩] w fun e w' => e = .returned (.string ⟨(Lib.trimRightB s.data.toList c).toArray⟩) ∧ w' = w := Any.strings_TrimRight_one Tryd.lays162 s c hc w hs
def Tryd.lays160_ren : Go.Shelf.Ren := ⟨fun | 160 => 40 | 232 => 55 | 231 => 54 | 227 => 56 | 234 => 58 | 233 => 57 | 236 => 60 | 235 => 59 | 228 => 80 | 271 => 83 | 151 => 82 | 197 => 81 | 120 => 100 | 152 => 99 | 260 => 98 | 137 => 104 | 119 => 105 | 224 => 78 | 225 => 77 | 217 => 76 | 266 => 96 | n => n, fun | 9 => 9 | 4 => 4 | 3 => 3 | 5 => 5 | 117 => 84 | 116 => 83 | 0 => 0 | 124 => 87 | 21 => 21 | 105 => 109 | 46 => 73 | 119 => 130 | 139 => 133 | 138 => 132 | n => n, fun | 3 => 4 | 4 => 5 | n => n⟩
theorem Tryd.lays160 : Go.Proofs.Lays.n160 Tryd.prog Tryd.lays160_ren := {
  mixed := by kernel_rfl
  f119 := Tryd.func105.trans (congrArg some (by kernel_rfl))
  f120 := Tryd.func100.trans (congrArg some (by kernel_rfl))
  f137 := Tryd.func104.trans (congrArg some (by kernel_rfl))
  f151 := Tryd.func82.trans (congrArg some (by kernel_rfl))
  f152 := Tryd.func99.trans (congrArg some (by kernel_rfl))
  f160 := Tryd.func40.trans (congrArg some (by kernel_rfl))
  f197 := Tryd.func81.trans (congrArg some (by kernel_rfl))
  f217 := Tryd.func76.trans (congrArg some (by kernel_rfl))
  f224 := Tryd.func78.trans (congrArg some (by kernel_rfl))
  f225 := Tryd.func77.trans (congrArg some (by kernel_rfl))
  f227 := Tryd.func56.trans (congrArg some (by kernel_rfl))
  f228 := Tryd.func80.trans (congrArg some (by kernel_rfl))
  f231 := Tryd.func54.trans (congrArg some (by kernel_rfl))
  f232 := Tryd.func55.trans (congrArg some (by kernel_rfl))
  f233 := Tryd.func57.trans (congrArg some (by kernel_rfl))
  f234 := Tryd.func58.trans (congrArg some (by kernel_rfl))
  f235 := Tryd.func59.trans (congrArg some (by kernel_rfl))
  f236 := Tryd.func60.trans (congrArg some (by kernel_rfl))
  f260 := Tryd.func98.trans (congrArg some (by kernel_rfl))
  f266 := Tryd.func96.trans (congrArg some (by kernel_rfl))
  f271 := Tryd.func83.trans (congrArg some (by kernel_rfl))
  t0 := Tryd.underlying0
  a0 := Tryd.isAgg0
  z0 := Tryd.sizeOf0
  v0 := Tryd.zeroValue0
  t3 := Tryd.underlying3
  a3 := Tryd.isAgg3
  z3 := Tryd.sizeOf3
  v3 := Tryd.zeroValue3
  t4 := Tryd.underlying4
  a4 := Tryd.isAgg4
  z4 := Tryd.sizeOf4
  v4 := Tryd.zeroValue4
  t5 := Tryd.underlying5
  a5 := Tryd.isAgg5
  z5 := Tryd.sizeOf5
  v5 := Tryd.zeroValue5
  t9 := Tryd.underlying9
  a9 := Tryd.isAgg9
  z9 := Tryd.sizeOf9
  v9 := Tryd.zeroValue9
  t21 := Tryd.underlying21
  a21 := Tryd.isAgg21
  z21 := Tryd.sizeOf21
  v21 := Tryd.zeroValue21
  t46 := Tryd.underlying73
  a46 := Tryd.isAgg73
  z46 := Tryd.sizeOf73
  v46 := Tryd.zeroValue73
  t105 := Tryd.underlying109
  a105 := Tryd.isAgg109
  z105 := Tryd.sizeOf109
  v105 := Tryd.zeroValue109
  t116 := Tryd.underlying83
  a116 := Tryd.isAgg83
  z116 := Tryd.sizeOf83
  t117 := Tryd.underlying84
  a117 := Tryd.isAgg84
  z117 := Tryd.sizeOf84
  v117 := Tryd.zeroValue84
  t119 := Tryd.underlying130
  a119 := Tryd.isAgg130
  z119 := Tryd.sizeOf130
  t124 := Tryd.underlying87
  a124 := Tryd.isAgg87
  z124 := Tryd.sizeOf87
  v124 := Tryd.zeroValue87
  t138 := Tryd.underlying132
  a138 := Tryd.isAgg132
  z138 := Tryd.sizeOf132
  v138 := Tryd.zeroValue132
  t139 := Tryd.underlying133
  a139 := Tryd.isAgg133
  z139 := Tryd.sizeOf133
  v139 := Tryd.zeroValue133
  g3 := by kernel_rfl
  g4 := by kernel_rfl }
def Tryd.lays283_ren : Go.Shelf.Ren := ⟨fun | 283 => 72 | n => n, fun | 3 => 3 | 9 => 9 | 4 => 4 | n => n, fun | n => n⟩
theorem Tryd.lays283 : Go.Proofs.Lays.n283 Tryd.prog Tryd.lays283_ren := {
  mixed := by kernel_rfl
  f283 := Tryd.func72.trans (congrArg some (by kernel_rfl))
  t3 := Tryd.underlying3
  a3 := Tryd.isAgg3
  z3 := Tryd.sizeOf3
  v3 := Tryd.zeroValue3
  t4 := Tryd.underlying4
  a4 := Tryd.isAgg4
  z4 := Tryd.sizeOf4
  v4 := Tryd.zeroValue4
  t9 := Tryd.underlying9
  a9 := Tryd.isAgg9
  z9 := Tryd.sizeOf9
  v9 := Tryd.zeroValue9 }
open Go.Lib in
/-- internal/strconv.small: "small returns the string for an i with 0 <= i < nSmalls.": i's decimal numeral. The world is as it was. (LAID: no walk: one application.) -/
theorem Tryd.internal_strconv_small (i : Nat) (h : i < 100) (w : World) :
    Calls Tryd.prog 72 #[.int .i64 i] w fun e w' => e = .returned (.string ⟨(Lib.decDigits i).toArray⟩) ∧ w' = w := Any.internal_strconv_small Tryd.lays283 i h w
def Tryd.laysM284_ren : Go.Shelf.Ren := ⟨fun | 284 => 73 | 129 => 92 | 317 => 91 | 318 => 93 | n => n, fun | 53 => 39 | 3 => 3 | 212 => 120 | 0 => 0 | 4 => 4 | 46 => 73 | 5 => 5 | 9 => 9 | n => n, fun | 17 => 3 | n => n⟩
theorem Tryd.laysM284 : Go.Proofs.LaysM.n284 Tryd.prog Tryd.laysM284_ren := {
  mixed := by kernel_rfl
  f129 := Tryd.func92.trans (congrArg some (by kernel_rfl))
  f284 := Tryd.func73.trans (congrArg some (by kernel_rfl))
  f317 := Tryd.func91.trans (congrArg some (by kernel_rfl))
  f318 := Tryd.func93.trans (congrArg some (by kernel_rfl))
  t0 := Tryd.underlying0
  a0 := Tryd.isAgg0
  z0 := Tryd.sizeOf0
  v0 := Tryd.zeroValue0
  t3 := Tryd.underlying3
  a3 := Tryd.isAgg3
  z3 := Tryd.sizeOf3
  v3 := Tryd.zeroValue3
  t4 := Tryd.underlying4
  a4 := Tryd.isAgg4
  z4 := Tryd.sizeOf4
  v4 := Tryd.zeroValue4
  t5 := Tryd.underlying5
  a5 := Tryd.isAgg5
  z5 := Tryd.sizeOf5
  v5 := Tryd.zeroValue5
  t9 := Tryd.underlying9
  a9 := Tryd.isAgg9
  z9 := Tryd.sizeOf9
  v9 := Tryd.zeroValue9
  t46 := Tryd.underlying73
  a46 := Tryd.isAgg73
  z46 := Tryd.sizeOf73
  v46 := Tryd.zeroValue73
  t53 := Tryd.underlying39
  a53 := Tryd.isAgg39
  z53 := Tryd.sizeOf39
  v53 := Tryd.zeroValue39
  t212 := Tryd.underlying120
  a212 := Tryd.isAgg120
  z212 := Tryd.sizeOf120
  v212 := Tryd.zeroValue120
  g17 := by kernel_rfl
  i0 := by kernel_rfl
  i3 := by kernel_rfl
  i4 := by kernel_rfl
  i5 := by kernel_rfl
  i9 := by kernel_rfl
  i46 := by kernel_rfl
  i53 := by kernel_rfl
  i212 := by kernel_rfl
  m17 := by kernel_rfl }
open Go.Lib in
/-- internal/strconv.numDigits, at a d that is not 0: THE NUMBER OF d's DECIMAL DIGITS. The world is as it was. (LAID: no walk: one application.) -/
theorem Tryd.internal_strconv_numDigits (u : Nat) (h1 : 1 ≤ u) (h2 : u < 18446744073709551616) (w : World) (htab : Lib.TabIs Tryd.prog w "internal/strconv.uint64pow10" .u64 Lib.pow10Tab) :
    Calls Tryd.prog 73 #[.int .u64 u] w fun e w' => e = .returned (.int .i64 (Lib.nDigits u)) ∧ w' = w := Any.internal_strconv_numDigits Tryd.laysM284 u h1 h2 w htab
def Tryd.lays285_ren : Go.Shelf.Ren := ⟨fun | 285 => 74 | n => n, fun | 37 => 67 | 53 => 39 | 3 => 3 | 4 => 4 | 51 => 89 | 9 => 9 | 5 => 5 | 0 => 0 | n => n, fun | n => n⟩
theorem Tryd.lays285 : Go.Proofs.Lays.n285 Tryd.prog Tryd.lays285_ren := {
  mixed := by kernel_rfl
  f285 := Tryd.func74.trans (congrArg some (by kernel_rfl))
  t0 := Tryd.underlying0
  a0 := Tryd.isAgg0
  z0 := Tryd.sizeOf0
  v0 := Tryd.zeroValue0
  t3 := Tryd.underlying3
  a3 := Tryd.isAgg3
  z3 := Tryd.sizeOf3
  v3 := Tryd.zeroValue3
  t4 := Tryd.underlying4
  a4 := Tryd.isAgg4
  z4 := Tryd.sizeOf4
  v4 := Tryd.zeroValue4
  t5 := Tryd.underlying5
  a5 := Tryd.isAgg5
  z5 := Tryd.sizeOf5
  v5 := Tryd.zeroValue5
  t9 := Tryd.underlying9
  a9 := Tryd.isAgg9
  z9 := Tryd.sizeOf9
  v9 := Tryd.zeroValue9
  t37 := Tryd.underlying67
  a37 := Tryd.isAgg67
  z37 := Tryd.sizeOf67
  v37 := Tryd.zeroValue67
  t51 := Tryd.underlying89
  a51 := Tryd.isAgg89
  z51 := Tryd.sizeOf89
  v51 := Tryd.zeroValue89
  t53 := Tryd.underlying39
  a53 := Tryd.isAgg39
  z53 := Tryd.sizeOf39
  v53 := Tryd.zeroValue39 }
open Go.RowKit Go.Sort Go.Lib in
/-- internal/strconv.formatBase10: "formatBase10 formats the decimal representation of u into a. The caller is responsible for ensuring that a is big enough to hold u. If a is too big, leading zeros will be filled in as needed.": THE ROW HOLDS u's DIGITS ('FmtInv .. 0 ..': every place t holds 'dg u (len - 1 - t)'); all else is as it was but for the count of draws. (LAID: no walk: one application.) -/
theorem Tryd.internal_strconv_formatBase10 (blk off cap : Nat) (u : Nat) (d : Array UInt8) (w : World) (hH : Holds (fun (b : UInt8) => Value.int .u8 (b.toNat : Int)) w blk off d) (hu : u < 10 ^ d.size) (hu64 : u < 18446744073709551616) (hsz : d.size < 4611686018427387904) :
    Calls Tryd.prog 74 #[.slice (some ⟨blk, off, none⟩) d.size cap, .int .u64 u] w fun e w' =>
      e = .returned (.tuple #[]) ∧ ∃ (n v' : Nat) (dk : Array UInt8), w' = (putRow (fun (b : UInt8) => Value.int .u8 (b.toNat : Int)) w blk off dk).drewN n ∧ FmtInv d.size u 0 v' dk := Any.internal_strconv_formatBase10 Tryd.lays285 blk off cap u d w hH hu hu64 hsz
def Tryd.laysM173_ren : Go.Shelf.Ren := ⟨fun | 173 => 34 | 246 => 52 | 283 => 72 | 284 => 73 | 285 => 74 | 286 => 75 | 129 => 92 | 317 => 91 | 318 => 93 | 319 => 94 | 320 => 95 | 337 => 102 | 338 => 103 | n => n, fun | 2 => 2 | 3 => 3 | 9 => 9 | 4 => 4 | 171 => 101 | 0 => 0 | 53 => 39 | 37 => 67 | 5 => 5 | 173 => 104 | 212 => 120 | 51 => 89 | 20 => 20 | 213 => 121 | 46 => 73 | 232 => 135 | 233 => 136 | n => n, fun | 17 => 3 | 18 => 6 | 19 => 7 | n => n⟩
theorem Tryd.laysM173 : Go.Proofs.LaysM.n173 Tryd.prog Tryd.laysM173_ren := {
  mixed := by kernel_rfl
  f129 := Tryd.func92.trans (congrArg some (by kernel_rfl))
  f173 := Tryd.func34.trans (congrArg some (by kernel_rfl))
  f246 := Tryd.func52.trans (congrArg some (by kernel_rfl))
  f283 := Tryd.func72.trans (congrArg some (by kernel_rfl))
  f284 := Tryd.func73.trans (congrArg some (by kernel_rfl))
  f285 := Tryd.func74.trans (congrArg some (by kernel_rfl))
  f286 := Tryd.func75.trans (congrArg some (by kernel_rfl))
  f317 := Tryd.func91.trans (congrArg some (by kernel_rfl))
  f318 := Tryd.func93.trans (congrArg some (by kernel_rfl))
  f319 := Tryd.func94.trans (congrArg some (by kernel_rfl))
  f320 := Tryd.func95.trans (congrArg some (by kernel_rfl))
  f337 := Tryd.func102.trans (congrArg some (by kernel_rfl))
  f338 := Tryd.func103.trans (congrArg some (by kernel_rfl))
  t0 := Tryd.underlying0
  a0 := Tryd.isAgg0
  z0 := Tryd.sizeOf0
  v0 := Tryd.zeroValue0
  t2 := Tryd.underlying2
  a2 := Tryd.isAgg2
  z2 := Tryd.sizeOf2
  v2 := Tryd.zeroValue2
  t3 := Tryd.underlying3
  a3 := Tryd.isAgg3
  z3 := Tryd.sizeOf3
  v3 := Tryd.zeroValue3
  t4 := Tryd.underlying4
  a4 := Tryd.isAgg4
  z4 := Tryd.sizeOf4
  v4 := Tryd.zeroValue4
  t5 := Tryd.underlying5
  a5 := Tryd.isAgg5
  z5 := Tryd.sizeOf5
  v5 := Tryd.zeroValue5
  t9 := Tryd.underlying9
  a9 := Tryd.isAgg9
  z9 := Tryd.sizeOf9
  v9 := Tryd.zeroValue9
  t20 := Tryd.underlying20
  a20 := Tryd.isAgg20
  z20 := Tryd.sizeOf20
  v20 := Tryd.zeroValue20
  t37 := Tryd.underlying67
  a37 := Tryd.isAgg67
  z37 := Tryd.sizeOf67
  v37 := Tryd.zeroValue67
  t46 := Tryd.underlying73
  a46 := Tryd.isAgg73
  z46 := Tryd.sizeOf73
  v46 := Tryd.zeroValue73
  t51 := Tryd.underlying89
  a51 := Tryd.isAgg89
  z51 := Tryd.sizeOf89
  v51 := Tryd.zeroValue89
  t53 := Tryd.underlying39
  a53 := Tryd.isAgg39
  z53 := Tryd.sizeOf39
  v53 := Tryd.zeroValue39
  t171 := Tryd.underlying101
  a171 := Tryd.isAgg101
  z171 := Tryd.sizeOf101
  v171 := Tryd.zeroValue101
  t173 := Tryd.underlying104
  a173 := Tryd.isAgg104
  z173 := Tryd.sizeOf104
  v173 := Tryd.zeroValue104
  t212 := Tryd.underlying120
  a212 := Tryd.isAgg120
  z212 := Tryd.sizeOf120
  v212 := Tryd.zeroValue120
  t213 := Tryd.underlying121
  a213 := Tryd.isAgg121
  z213 := Tryd.sizeOf121
  t232 := Tryd.underlying135
  a232 := Tryd.isAgg135
  z232 := Tryd.sizeOf135
  v232 := Tryd.zeroValue135
  t233 := Tryd.underlying136
  a233 := Tryd.isAgg136
  z233 := Tryd.sizeOf136
  v233 := Tryd.zeroValue136
  g17 := by kernel_rfl
  g18 := by kernel_rfl
  g19 := by kernel_rfl
  i0 := by kernel_rfl
  i2 := by kernel_rfl
  i3 := by kernel_rfl
  i4 := by kernel_rfl
  i5 := by kernel_rfl
  i9 := by kernel_rfl
  i20 := by kernel_rfl
  i37 := by kernel_rfl
  i46 := by kernel_rfl
  i51 := by kernel_rfl
  i53 := by kernel_rfl
  i171 := by kernel_rfl
  i173 := by kernel_rfl
  i212 := by kernel_rfl
  i232 := by kernel_rfl
  i233 := by kernel_rfl
  m17 := by kernel_rfl
  m18 := by kernel_rfl
  m19 := by kernel_rfl }
open Go.RowKit Go.Sort Go.Lib in
/-- strconv.FormatInt: "FormatInt returns the string representation of i in the given base": AT BASE 10: i's decimal numeral, for every int64. (LAID: no walk: one application.) -/
theorem Tryd.strconv_FormatInt_10 (n : Int) (h0 : -9223372036854775808 ≤ n) (h1 : n ≤ 9223372036854775807) (w : World) (htab : Lib.TabIs Tryd.prog w "internal/strconv.uint64pow10" .u64 Lib.pow10Tab) :
    Calls Tryd.prog 34 #[.int .i64 n, .int .i64 10] w fun e w' => e = .returned (.string ⟨(Lib.itoa n).toArray⟩) ∧ ∃ k os, w' = grow (w.drewN k) os := Any.strconv_FormatInt_10 Tryd.laysM173 n h0 h1 w htab
def Tryd.laysC174_ren : Go.Shelf.Ren := ⟨fun | 174 => 33 | 247 => 50 | 245 => 51 | 287 => 67 | 279 => 68 | 280 => 69 | 281 => 70 | 282 => 71 | 321 => 86 | 322 => 87 | 316 => 88 | 171 => 90 | 205 => 89 | 243 => 101 | 246 => 52 | 283 => 72 | 284 => 73 | 285 => 74 | 286 => 75 | 129 => 92 | 317 => 91 | 318 => 93 | 319 => 94 | 320 => 95 | 337 => 102 | 338 => 103 | n => n, fun | 9 => 9 | 3 => 3 | 2 => 2 | 75 => 59 | 85 => 60 | 4 => 4 | 167 => 96 | 5 => 5 | 53 => 39 | 175 => 94 | 46 => 73 | 168 => 97 | 37 => 67 | 0 => 0 | 210 => 117 | 21 => 21 | 127 => 88 | 145 => 128 | 143 => 126 | 171 => 101 | 173 => 104 | 212 => 120 | 51 => 89 | 20 => 20 | 213 => 121 | 232 => 135 | 233 => 136 | 80 => 53 | n => n, fun | 15 => 1 | 16 => 2 | 17 => 3 | 18 => 6 | 19 => 7 | n => n⟩
theorem Tryd.laysC174 : Go.Proofs.LaysC.n174 Tryd.prog Tryd.laysC174_ren := {
  mixed := by kernel_rfl
  f129 := Tryd.func92.trans (congrArg some (by kernel_rfl))
  f171 := Tryd.func90.trans (congrArg some (by kernel_rfl))
  f174 := Tryd.func33.trans (congrArg some (by kernel_rfl))
  f205 := Tryd.func89.trans (congrArg some (by kernel_rfl))
  f243 := Tryd.func101.trans (congrArg some (by kernel_rfl))
  f245 := Tryd.func51.trans (congrArg some (by kernel_rfl))
  f246 := Tryd.func52.trans (congrArg some (by kernel_rfl))
  f247 := Tryd.func50.trans (congrArg some (by kernel_rfl))
  f279 := Tryd.func68.trans (congrArg some (by kernel_rfl))
  f280 := Tryd.func69.trans (congrArg some (by kernel_rfl))
  f281 := Tryd.func70.trans (congrArg some (by kernel_rfl))
  f282 := Tryd.func71.trans (congrArg some (by kernel_rfl))
  f283 := Tryd.func72.trans (congrArg some (by kernel_rfl))
  f284 := Tryd.func73.trans (congrArg some (by kernel_rfl))
  f285 := Tryd.func74.trans (congrArg some (by kernel_rfl))
  f286 := Tryd.func75.trans (congrArg some (by kernel_rfl))
  f287 := Tryd.func67.trans (congrArg some (by kernel_rfl))
  f316 := Tryd.func88.trans (congrArg some (by kernel_rfl))
  f317 := Tryd.func91.trans (congrArg some (by kernel_rfl))
  f318 := Tryd.func93.trans (congrArg some (by kernel_rfl))
  f319 := Tryd.func94.trans (congrArg some (by kernel_rfl))
  f320 := Tryd.func95.trans (congrArg some (by kernel_rfl))
  f321 := Tryd.func86.trans (congrArg some (by kernel_rfl))
  f322 := Tryd.func87.trans (congrArg some (by kernel_rfl))
  f337 := Tryd.func102.trans (congrArg some (by kernel_rfl))
  f338 := Tryd.func103.trans (congrArg some (by kernel_rfl))
  t0 := Tryd.underlying0
  a0 := Tryd.isAgg0
  z0 := Tryd.sizeOf0
  v0 := Tryd.zeroValue0
  t2 := Tryd.underlying2
  a2 := Tryd.isAgg2
  z2 := Tryd.sizeOf2
  v2 := Tryd.zeroValue2
  t3 := Tryd.underlying3
  a3 := Tryd.isAgg3
  z3 := Tryd.sizeOf3
  v3 := Tryd.zeroValue3
  t4 := Tryd.underlying4
  a4 := Tryd.isAgg4
  z4 := Tryd.sizeOf4
  v4 := Tryd.zeroValue4
  t5 := Tryd.underlying5
  a5 := Tryd.isAgg5
  z5 := Tryd.sizeOf5
  v5 := Tryd.zeroValue5
  t9 := Tryd.underlying9
  a9 := Tryd.isAgg9
  z9 := Tryd.sizeOf9
  v9 := Tryd.zeroValue9
  t20 := Tryd.underlying20
  a20 := Tryd.isAgg20
  z20 := Tryd.sizeOf20
  v20 := Tryd.zeroValue20
  t21 := Tryd.underlying21
  a21 := Tryd.isAgg21
  z21 := Tryd.sizeOf21
  v21 := Tryd.zeroValue21
  t37 := Tryd.underlying67
  a37 := Tryd.isAgg67
  z37 := Tryd.sizeOf67
  v37 := Tryd.zeroValue67
  t46 := Tryd.underlying73
  a46 := Tryd.isAgg73
  z46 := Tryd.sizeOf73
  v46 := Tryd.zeroValue73
  t51 := Tryd.underlying89
  a51 := Tryd.isAgg89
  z51 := Tryd.sizeOf89
  v51 := Tryd.zeroValue89
  t53 := Tryd.underlying39
  a53 := Tryd.isAgg39
  z53 := Tryd.sizeOf39
  v53 := Tryd.zeroValue39
  t75 := Tryd.underlying59
  a75 := Tryd.isAgg59
  z75 := Tryd.sizeOf59
  v75 := Tryd.zeroValue59
  t85 := Tryd.underlying60
  a85 := Tryd.isAgg60
  z85 := Tryd.sizeOf60
  v85 := Tryd.zeroValue60
  t127 := Tryd.underlying88
  a127 := Tryd.isAgg88
  z127 := Tryd.sizeOf88
  v127 := Tryd.zeroValue88
  t143 := Tryd.underlying126
  a143 := Tryd.isAgg126
  z143 := Tryd.sizeOf126
  v143 := Tryd.zeroValue126
  t145 := Tryd.underlying128
  a145 := Tryd.isAgg128
  z145 := Tryd.sizeOf128
  v145 := Tryd.zeroValue128
  t167 := Tryd.underlying96
  a167 := Tryd.isAgg96
  z167 := Tryd.sizeOf96
  v167 := Tryd.zeroValue96
  t168 := Tryd.underlying97
  a168 := Tryd.isAgg97
  z168 := Tryd.sizeOf97
  v168 := Tryd.zeroValue97
  t171 := Tryd.underlying101
  a171 := Tryd.isAgg101
  z171 := Tryd.sizeOf101
  v171 := Tryd.zeroValue101
  t173 := Tryd.underlying104
  a173 := Tryd.isAgg104
  z173 := Tryd.sizeOf104
  v173 := Tryd.zeroValue104
  t175 := Tryd.underlying94
  a175 := Tryd.isAgg94
  z175 := Tryd.sizeOf94
  v175 := Tryd.zeroValue94
  t210 := Tryd.underlying117
  a210 := Tryd.isAgg117
  z210 := Tryd.sizeOf117
  v210 := Tryd.zeroValue117
  t212 := Tryd.underlying120
  a212 := Tryd.isAgg120
  z212 := Tryd.sizeOf120
  v212 := Tryd.zeroValue120
  t213 := Tryd.underlying121
  a213 := Tryd.isAgg121
  z213 := Tryd.sizeOf121
  t232 := Tryd.underlying135
  a232 := Tryd.isAgg135
  z232 := Tryd.sizeOf135
  v232 := Tryd.zeroValue135
  t233 := Tryd.underlying136
  a233 := Tryd.isAgg136
  z233 := Tryd.sizeOf136
  v233 := Tryd.zeroValue136
  g15 := by kernel_rfl
  g16 := by kernel_rfl
  g17 := by kernel_rfl
  g18 := by kernel_rfl
  g19 := by kernel_rfl
  t80 := Tryd.underlying53
  a80 := Tryd.isAgg53
  z80 := Tryd.sizeOf53
  v80 := Tryd.zeroValue53
  i0 := by kernel_rfl
  i2 := by kernel_rfl
  i3 := by kernel_rfl
  i4 := by kernel_rfl
  i5 := by kernel_rfl
  i9 := by kernel_rfl
  i20 := by kernel_rfl
  i21 := by kernel_rfl
  i37 := by kernel_rfl
  i46 := by kernel_rfl
  i51 := by kernel_rfl
  i53 := by kernel_rfl
  i75 := by kernel_rfl
  i80 := by kernel_rfl
  i85 := by kernel_rfl
  i127 := by kernel_rfl
  i143 := by kernel_rfl
  i145 := by kernel_rfl
  i167 := by kernel_rfl
  i168 := by kernel_rfl
  i171 := by kernel_rfl
  i173 := by kernel_rfl
  i175 := by kernel_rfl
  i210 := by kernel_rfl
  i212 := by kernel_rfl
  i232 := by kernel_rfl
  i233 := by kernel_rfl
  m15 := by kernel_rfl
  m16 := by kernel_rfl
  m17 := by kernel_rfl
  m18 := by kernel_rfl
  m19 := by kernel_rfl
  c0 := by kernel_rfl
  c2 := by kernel_rfl
  c3 := by kernel_rfl
  c4 := by kernel_rfl
  c5 := by kernel_rfl
  c9 := by kernel_rfl
  c20 := by kernel_rfl
  c21 := by kernel_rfl
  c37 := by kernel_rfl
  c46 := by kernel_rfl
  c51 := by kernel_rfl
  c53 := by kernel_rfl
  c75 := by kernel_rfl
  c80 := by kernel_rfl
  c85 := by kernel_rfl
  c127 := by kernel_rfl
  c143 := by kernel_rfl
  c145 := by kernel_rfl
  c167 := by kernel_rfl
  c168 := by kernel_rfl
  c171 := by kernel_rfl
  c173 := by kernel_rfl
  c175 := by kernel_rfl
  c210 := by kernel_rfl
  c212 := by kernel_rfl
  c213 := by kernel_rfl
  c232 := by kernel_rfl
  c233 := by kernel_rfl }
open Go.RowKit in
/-- strconv.ParseInt(s, 10, 64), AT EVERY STRING THAT SPELLS AN int64 ('Lib.parseIntB 64 s.data.toList = .ok v'): v, AND NO ERROR. (LAID: no walk: one application.) -/
theorem Tryd.strconv_ParseInt_10_at64_ok (s : ByteArray) (hmax : s.size ≤ 9223372036854775806) (v : Int) (h : Lib.parseIntB 64 s.data.toList = .ok v) (w : World) :
    Calls Tryd.prog 33 #[.string s, .int .i64 10, .int .i64 64] w fun e w' => e = .returned (.tuple #[.int .i64 v, .nilIface]) ∧ (w' = w ∨ ∃ t, w' = Lib.bytesWorld w 5 t) := Any.strconv_ParseInt_10_at64_ok Tryd.laysC174 s hmax v h w
open Go.RowKit in
theorem Tryd.strconv_ParseInt_10_at64_range_var (s : ByteArray) (hlim : s.size ≤ 281474976710656) (h : Lib.parseIntB 64 s.data.toList = .range) (tp : TypeId) (p : Value) (w : World) (hvar : w.var? Tryd.prog "strconv.ErrRange" = some #[.iface tp p]) :
    Calls Tryd.prog 33 #[.string s, .int .i64 10, .int .i64 64] w fun e w' => ∃ N, e = .returned (.tuple #[.int .i64 (Lib.intSat 64 s.data.toList), .iface 97 (.pointer (some ⟨N, 0, none⟩))]) ∧ w.heap.size ≤ N ∧ w'.heap[N]? = some (.cells #[.string ⟨#[80, 97, 114, 115, 101, 73, 110, 116]⟩, .string s, .iface tp p] 117 (0, 0)) ∧ Below w.heap.size w w' := Any.strconv_ParseInt_10_at64_range_var Tryd.laysC174 s hlim h tp p w hvar
def Tryd.laysPu14_ren : Go.Shelf.Ren := ⟨fun | 14 => 66 | 16 => 67 | 17 => 51 | 19 => 86 | 20 => 87 | 21 => 68 | 22 => 69 | 23 => 70 | 24 => 71 | 25 => 88 | 27 => 90 | 26 => 89 | 28 => 101 | 29 => 52 | 30 => 72 | 31 => 73 | 32 => 74 | 33 => 75 | 35 => 92 | 34 => 91 | 36 => 93 | 37 => 94 | 38 => 95 | 39 => 102 | 40 => 103 | n => n, fun | 9 => 9 | 3 => 3 | 22 => 39 | 24 => 59 | 25 => 94 | 4 => 4 | 34 => 96 | 5 => 5 | 36 => 73 | 37 => 67 | 0 => 0 | 39 => 97 | 21 => 21 | 44 => 117 | 47 => 88 | 50 => 128 | 48 => 126 | 2 => 2 | 52 => 101 | 55 => 104 | 59 => 120 | 60 => 89 | 20 => 20 | 61 => 121 | 65 => 135 | 66 => 136 | 67 => 53 | n => n, fun | 0 => 1 | 1 => 2 | 2 => 3 | 3 => 6 | 4 => 7 | n => n⟩
theorem Tryd.laysPu14 : Go.Proofs.LaysPu.n14 Tryd.prog Tryd.laysPu14_ren := {
  mixed := by kernel_rfl
  f14 := Tryd.func66.trans (congrArg some (by kernel_rfl))
  f16 := Tryd.func67.trans (congrArg some (by kernel_rfl))
  f17 := Tryd.func51.trans (congrArg some (by kernel_rfl))
  f19 := Tryd.func86.trans (congrArg some (by kernel_rfl))
  f20 := Tryd.func87.trans (congrArg some (by kernel_rfl))
  f21 := Tryd.func68.trans (congrArg some (by kernel_rfl))
  f22 := Tryd.func69.trans (congrArg some (by kernel_rfl))
  f23 := Tryd.func70.trans (congrArg some (by kernel_rfl))
  f24 := Tryd.func71.trans (congrArg some (by kernel_rfl))
  f25 := Tryd.func88.trans (congrArg some (by kernel_rfl))
  f26 := Tryd.func89.trans (congrArg some (by kernel_rfl))
  f27 := Tryd.func90.trans (congrArg some (by kernel_rfl))
  f28 := Tryd.func101.trans (congrArg some (by kernel_rfl))
  f29 := Tryd.func52.trans (congrArg some (by kernel_rfl))
  f30 := Tryd.func72.trans (congrArg some (by kernel_rfl))
  f31 := Tryd.func73.trans (congrArg some (by kernel_rfl))
  f32 := Tryd.func74.trans (congrArg some (by kernel_rfl))
  f33 := Tryd.func75.trans (congrArg some (by kernel_rfl))
  f34 := Tryd.func91.trans (congrArg some (by kernel_rfl))
  f35 := Tryd.func92.trans (congrArg some (by kernel_rfl))
  f36 := Tryd.func93.trans (congrArg some (by kernel_rfl))
  f37 := Tryd.func94.trans (congrArg some (by kernel_rfl))
  f38 := Tryd.func95.trans (congrArg some (by kernel_rfl))
  f39 := Tryd.func102.trans (congrArg some (by kernel_rfl))
  f40 := Tryd.func103.trans (congrArg some (by kernel_rfl))
  t0 := Tryd.underlying0
  a0 := Tryd.isAgg0
  z0 := Tryd.sizeOf0
  v0 := Tryd.zeroValue0
  i0 := by kernel_rfl
  t2 := Tryd.underlying2
  a2 := Tryd.isAgg2
  z2 := Tryd.sizeOf2
  v2 := Tryd.zeroValue2
  i2 := by kernel_rfl
  t3 := Tryd.underlying3
  a3 := Tryd.isAgg3
  z3 := Tryd.sizeOf3
  v3 := Tryd.zeroValue3
  i3 := by kernel_rfl
  t4 := Tryd.underlying4
  a4 := Tryd.isAgg4
  z4 := Tryd.sizeOf4
  v4 := Tryd.zeroValue4
  i4 := by kernel_rfl
  t5 := Tryd.underlying5
  a5 := Tryd.isAgg5
  z5 := Tryd.sizeOf5
  v5 := Tryd.zeroValue5
  i5 := by kernel_rfl
  t9 := Tryd.underlying9
  a9 := Tryd.isAgg9
  z9 := Tryd.sizeOf9
  v9 := Tryd.zeroValue9
  i9 := by kernel_rfl
  t20 := Tryd.underlying20
  a20 := Tryd.isAgg20
  z20 := Tryd.sizeOf20
  v20 := Tryd.zeroValue20
  i20 := by kernel_rfl
  t21 := Tryd.underlying21
  a21 := Tryd.isAgg21
  z21 := Tryd.sizeOf21
  v21 := Tryd.zeroValue21
  i21 := by kernel_rfl
  t22 := Tryd.underlying39
  a22 := Tryd.isAgg39
  z22 := Tryd.sizeOf39
  v22 := Tryd.zeroValue39
  i22 := by kernel_rfl
  t24 := Tryd.underlying59
  a24 := Tryd.isAgg59
  z24 := Tryd.sizeOf59
  v24 := Tryd.zeroValue59
  i24 := by kernel_rfl
  t25 := Tryd.underlying94
  a25 := Tryd.isAgg94
  z25 := Tryd.sizeOf94
  v25 := Tryd.zeroValue94
  i25 := by kernel_rfl
  t34 := Tryd.underlying96
  a34 := Tryd.isAgg96
  z34 := Tryd.sizeOf96
  v34 := Tryd.zeroValue96
  i34 := by kernel_rfl
  c34 := by kernel_rfl
  t36 := Tryd.underlying73
  a36 := Tryd.isAgg73
  z36 := Tryd.sizeOf73
  v36 := Tryd.zeroValue73
  i36 := by kernel_rfl
  t37 := Tryd.underlying67
  a37 := Tryd.isAgg67
  z37 := Tryd.sizeOf67
  v37 := Tryd.zeroValue67
  i37 := by kernel_rfl
  t39 := Tryd.underlying97
  a39 := Tryd.isAgg97
  z39 := Tryd.sizeOf97
  v39 := Tryd.zeroValue97
  i39 := by kernel_rfl
  t44 := Tryd.underlying117
  a44 := Tryd.isAgg117
  z44 := Tryd.sizeOf117
  v44 := Tryd.zeroValue117
  i44 := by kernel_rfl
  t47 := Tryd.underlying88
  a47 := Tryd.isAgg88
  z47 := Tryd.sizeOf88
  v47 := Tryd.zeroValue88
  i47 := by kernel_rfl
  t48 := Tryd.underlying126
  a48 := Tryd.isAgg126
  z48 := Tryd.sizeOf126
  v48 := Tryd.zeroValue126
  i48 := by kernel_rfl
  t50 := Tryd.underlying128
  a50 := Tryd.isAgg128
  z50 := Tryd.sizeOf128
  v50 := Tryd.zeroValue128
  i50 := by kernel_rfl
  t52 := Tryd.underlying101
  a52 := Tryd.isAgg101
  z52 := Tryd.sizeOf101
  v52 := Tryd.zeroValue101
  i52 := by kernel_rfl
  t55 := Tryd.underlying104
  a55 := Tryd.isAgg104
  z55 := Tryd.sizeOf104
  v55 := Tryd.zeroValue104
  i55 := by kernel_rfl
  t59 := Tryd.underlying120
  a59 := Tryd.isAgg120
  z59 := Tryd.sizeOf120
  v59 := Tryd.zeroValue120
  i59 := by kernel_rfl
  t60 := Tryd.underlying89
  a60 := Tryd.isAgg89
  z60 := Tryd.sizeOf89
  v60 := Tryd.zeroValue89
  i60 := by kernel_rfl
  t61 := Tryd.underlying121
  a61 := Tryd.isAgg121
  z61 := Tryd.sizeOf121
  t65 := Tryd.underlying135
  a65 := Tryd.isAgg135
  z65 := Tryd.sizeOf135
  v65 := Tryd.zeroValue135
  i65 := by kernel_rfl
  t66 := Tryd.underlying136
  a66 := Tryd.isAgg136
  z66 := Tryd.sizeOf136
  v66 := Tryd.zeroValue136
  i66 := by kernel_rfl
  t67 := Tryd.underlying53
  a67 := Tryd.isAgg53
  z67 := Tryd.sizeOf53
  v67 := Tryd.zeroValue53
  i67 := by kernel_rfl
  g0 := by kernel_rfl
  m0 := by kernel_rfl
  g1 := by kernel_rfl
  m1 := by kernel_rfl
  g2 := by kernel_rfl
  m2 := by kernel_rfl
  g3 := by kernel_rfl
  m3 := by kernel_rfl
  g4 := by kernel_rfl
  m4 := by kernel_rfl }
open Go.RowKit in
/-- strconv.ParseUint(s, 10, 64), AT EVERY STRING THAT SPELLS A uint64 ('Lib.parseUintB 64 s.data.toList = .ok u'): u, AND NO ERROR. (LAID: no walk: one application.) -/
theorem Tryd.strconv_ParseUint_10_at64_ok (s : ByteArray) (hmax : s.size ≤ 9223372036854775806) (u : Nat) (h : Lib.parseUintB 64 s.data.toList = .ok u) (w : World) :
    Calls Tryd.prog 66 #[.string s, .int .i64 10, .int .i64 64] w fun e w' => e = .returned (.tuple #[.int .u64 u, .nilIface]) ∧ (w' = w ∨ w' = Lib.bytesWorld w 5 s) := Any.strconv_ParseUint_10_at64_ok Tryd.laysPu14 s hmax u h w
def Tryd.lays145_ren : Go.Shelf.Ren := ⟨fun | 145 => 25 | 220 => 39 | 219 => 53 | 217 => 76 | 225 => 77 | 224 => 78 | 267 => 79 | 266 => 96 | 314 => 97 | n => n, fun | 9 => 9 | 4 => 4 | 59 => 49 | 3 => 3 | 5 => 5 | 46 => 73 | 146 => 90 | 51 => 89 | n => n, fun | 1 => 0 | n => n⟩
theorem Tryd.lays145 : Go.Proofs.Lays.n145 Tryd.prog Tryd.lays145_ren := {
  mixed := by kernel_rfl
  f145 := Tryd.func25.trans (congrArg some (by kernel_rfl))
  f217 := Tryd.func76.trans (congrArg some (by kernel_rfl))
  f219 := Tryd.func53.trans (congrArg some (by kernel_rfl))
  f220 := Tryd.func39.trans (congrArg some (by kernel_rfl))
  f224 := Tryd.func78.trans (congrArg some (by kernel_rfl))
  f225 := Tryd.func77.trans (congrArg some (by kernel_rfl))
  f266 := Tryd.func96.trans (congrArg some (by kernel_rfl))
  f267 := Tryd.func79.trans (congrArg some (by kernel_rfl))
  f314 := Tryd.func97.trans (congrArg some (by kernel_rfl))
  t3 := Tryd.underlying3
  a3 := Tryd.isAgg3
  z3 := Tryd.sizeOf3
  v3 := Tryd.zeroValue3
  t4 := Tryd.underlying4
  a4 := Tryd.isAgg4
  z4 := Tryd.sizeOf4
  v4 := Tryd.zeroValue4
  t5 := Tryd.underlying5
  a5 := Tryd.isAgg5
  z5 := Tryd.sizeOf5
  v5 := Tryd.zeroValue5
  t9 := Tryd.underlying9
  a9 := Tryd.isAgg9
  z9 := Tryd.sizeOf9
  v9 := Tryd.zeroValue9
  t46 := Tryd.underlying73
  a46 := Tryd.isAgg73
  z46 := Tryd.sizeOf73
  v46 := Tryd.zeroValue73
  t51 := Tryd.underlying89
  a51 := Tryd.isAgg89
  z51 := Tryd.sizeOf89
  v51 := Tryd.zeroValue89
  t59 := Tryd.underlying49
  a59 := Tryd.isAgg49
  z59 := Tryd.sizeOf49
  v59 := Tryd.zeroValue49
  t146 := Tryd.underlying90
  a146 := Tryd.isAgg90
  z146 := Tryd.sizeOf90
  v146 := Tryd.zeroValue90
  g1 := by kernel_rfl }
open Go.RowKit Go.Lib in
/-- strings.Cut: "Cut slices s around the first instance of sep, returning the text before and after sep. The found result reports whether sep appears in s. If sep does not appear in s, cut returns s, "", false.": IT RETURNS 'Lib.cut s sep'; the world is as it was but for the count of draws. (LAID: no walk: one application.) -/
theorem Tryd.strings_Cut (s sep : ByteArray) (m : Int) (w : World) (hs : s.size < 4294967281) (hm : w.cell? ⟨0, 0, none⟩ = some (.int .i64 m)) :
    Calls Tryd.prog 25 #[.string s, .string sep] w fun e w' => e = .returned (.tuple #[.string ⟨(Lib.cut s.data.toList sep.data.toList).1.toArray⟩, .string ⟨(Lib.cut s.data.toList sep.data.toList).2.1.toArray⟩, .bool (Lib.cut s.data.toList sep.data.toList).2.2]) ∧ ∃ n, w' = w.drewN n := Any.strings_Cut Tryd.lays145 s sep m w hs hm
def Tryd.lays99_ren : Go.Shelf.Ren := ⟨fun | 99 => 24 | 206 => 38 | n => n, fun | 9 => 9 | 4 => 4 | 3 => 3 | n => n, fun | n => n⟩
theorem Tryd.lays99 : Go.Proofs.Lays.n99 Tryd.prog Tryd.lays99_ren := {
  mixed := by kernel_rfl
  f99 := Tryd.func24.trans (congrArg some (by kernel_rfl))
  f206 := Tryd.func38.trans (congrArg some (by kernel_rfl))
  t3 := Tryd.underlying3
  a3 := Tryd.isAgg3
  z3 := Tryd.sizeOf3
  v3 := Tryd.zeroValue3
  t4 := Tryd.underlying4
  a4 := Tryd.isAgg4
  z4 := Tryd.sizeOf4
  v4 := Tryd.zeroValue4
  t9 := Tryd.underlying9
  a9 := Tryd.isAgg9
  z9 := Tryd.sizeOf9
  v9 := Tryd.zeroValue9 }
open Go.RowKit Go.Lib in
/-- strings.HasPrefix: "HasPrefix reports whether the string s begins with prefix.": IT RETURNS 'Lib.hasPrefix s prefix'; the world is as it was. (LAID: no walk: one application.) -/
theorem Tryd.strings_HasPrefix (s p : ByteArray) (w : World) :
    Calls Tryd.prog 24 #[.string s, .string p] w fun e w' => e = .returned (.bool (Lib.hasPrefix s.data.toList p.data.toList)) ∧ w' = w := Any.strings_HasPrefix Tryd.lays99 s p w
def Tryd.lays105_ren : Go.Shelf.Ren := ⟨fun | 105 => 31 | 212 => 46 | 99 => 24 | 165 => 47 | 166 => 44 | 170 => 48 | 169 => 45 | 263 => 63 | 264 => 64 | 206 => 38 | 240 => 62 | 241 => 65 | 276 => 84 | 277 => 85 | n => n, fun | 9 => 9 | 3 => 3 | 4 => 4 | 20 => 20 | 0 => 0 | 46 => 73 | 109 => 74 | 5 => 5 | 72 => 69 | 76 => 71 | 51 => 89 | 146 => 90 | 53 => 39 | 148 => 92 | 70 => 66 | 37 => 67 | 75 => 59 | 127 => 88 | 164 => 112 | 80 => 53 | n => n, fun | n => n⟩
theorem Tryd.lays105 : Go.Proofs.Lays.n105 Tryd.prog Tryd.lays105_ren := {
  mixed := by kernel_rfl
  f99 := Tryd.func24.trans (congrArg some (by kernel_rfl))
  f105 := Tryd.func31.trans (congrArg some (by kernel_rfl))
  f165 := Tryd.func47.trans (congrArg some (by kernel_rfl))
  f166 := Tryd.func44.trans (congrArg some (by kernel_rfl))
  f169 := Tryd.func45.trans (congrArg some (by kernel_rfl))
  f170 := Tryd.func48.trans (congrArg some (by kernel_rfl))
  f206 := Tryd.func38.trans (congrArg some (by kernel_rfl))
  f212 := Tryd.func46.trans (congrArg some (by kernel_rfl))
  f240 := Tryd.func62.trans (congrArg some (by kernel_rfl))
  f241 := Tryd.func65.trans (congrArg some (by kernel_rfl))
  f263 := Tryd.func63.trans (congrArg some (by kernel_rfl))
  f264 := Tryd.func64.trans (congrArg some (by kernel_rfl))
  f276 := Tryd.func84.trans (congrArg some (by kernel_rfl))
  f277 := Tryd.func85.trans (congrArg some (by kernel_rfl))
  t0 := Tryd.underlying0
  a0 := Tryd.isAgg0
  z0 := Tryd.sizeOf0
  v0 := Tryd.zeroValue0
  t3 := Tryd.underlying3
  a3 := Tryd.isAgg3
  z3 := Tryd.sizeOf3
  v3 := Tryd.zeroValue3
  t4 := Tryd.underlying4
  a4 := Tryd.isAgg4
  z4 := Tryd.sizeOf4
  v4 := Tryd.zeroValue4
  t5 := Tryd.underlying5
  a5 := Tryd.isAgg5
  z5 := Tryd.sizeOf5
  v5 := Tryd.zeroValue5
  t9 := Tryd.underlying9
  a9 := Tryd.isAgg9
  z9 := Tryd.sizeOf9
  v9 := Tryd.zeroValue9
  t20 := Tryd.underlying20
  a20 := Tryd.isAgg20
  z20 := Tryd.sizeOf20
  v20 := Tryd.zeroValue20
  t37 := Tryd.underlying67
  a37 := Tryd.isAgg67
  z37 := Tryd.sizeOf67
  v37 := Tryd.zeroValue67
  t46 := Tryd.underlying73
  a46 := Tryd.isAgg73
  z46 := Tryd.sizeOf73
  v46 := Tryd.zeroValue73
  t51 := Tryd.underlying89
  a51 := Tryd.isAgg89
  z51 := Tryd.sizeOf89
  v51 := Tryd.zeroValue89
  t53 := Tryd.underlying39
  a53 := Tryd.isAgg39
  z53 := Tryd.sizeOf39
  v53 := Tryd.zeroValue39
  t70 := Tryd.underlying66
  a70 := Tryd.isAgg66
  z70 := Tryd.sizeOf66
  v70 := Tryd.zeroValue66
  t72 := Tryd.underlying69
  a72 := Tryd.isAgg69
  z72 := Tryd.sizeOf69
  v72 := Tryd.zeroValue69
  t75 := Tryd.underlying59
  a75 := Tryd.isAgg59
  z75 := Tryd.sizeOf59
  v75 := Tryd.zeroValue59
  t76 := Tryd.underlying71
  a76 := Tryd.isAgg71
  z76 := Tryd.sizeOf71
  v76 := Tryd.zeroValue71
  t109 := Tryd.underlying74
  a109 := Tryd.isAgg74
  z109 := Tryd.sizeOf74
  v109 := Tryd.zeroValue74
  t127 := Tryd.underlying88
  a127 := Tryd.isAgg88
  z127 := Tryd.sizeOf88
  v127 := Tryd.zeroValue88
  t146 := Tryd.underlying90
  a146 := Tryd.isAgg90
  z146 := Tryd.sizeOf90
  v146 := Tryd.zeroValue90
  t148 := Tryd.underlying92
  a148 := Tryd.isAgg92
  z148 := Tryd.sizeOf92
  v148 := Tryd.zeroValue92
  t164 := Tryd.underlying112
  a164 := Tryd.isAgg112
  z164 := Tryd.sizeOf112
  v164 := Tryd.zeroValue112 }
theorem Tryd.Builder_Extra_105 : Builder.Extra Tryd.prog Tryd.lays105_ren := {
  sizeBuilder := by kernel_rfl
  liesBuilder := by kernel_rfl
  t5 := Tryd.underlying5
  a5 := Tryd.isAgg5
  z5 := Tryd.sizeOf5
  v5 := Tryd.zeroValue5
  infoByte := by kernel_rfl
  cellsByte := by kernel_rfl
  sizeByte := by kernel_rfl
  neB5 := by decide }
open Go.RowKit Go.Lib in
/-- **strings.Repeat: count ≥ 0, the result within one allocation: count copies of s.** (LAID: no walk: one application.) -/
theorem Tryd.strings_Repeat (s : ByteArray) (c : Nat) (w : World) (hc : c ≤ 9223372036854775807) (hlen : s.size * c ≤ 140737488355328) :
    Calls Tryd.prog 31 #[.string s, .int .i64 c] w fun e w' => e = .returned (.string ⟨(Lib.repeatL s.data.toList c).toArray⟩) ∧ Below w.heap.size w w' := Any.strings_Repeat Tryd.lays105 Tryd.Builder_Extra_105 s c w hc hlen
end Go.Proofs
