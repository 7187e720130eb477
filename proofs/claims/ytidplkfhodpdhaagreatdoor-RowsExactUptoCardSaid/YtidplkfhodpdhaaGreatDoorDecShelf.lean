/- Texts DecEnvD, DecShelf, one behind the other. -/
import Derived.Test.YtidplkfhodpdhaaGreatDoorDecA
set_option linter.unusedVariables false
namespace Go.Proofs.YtidplkfhodpdhaaGreatDoor.dec
open Go.ChangeShapes Go.WideShapes Go.ChangeAt Go.RowKit kit
structure EnvD(w:World):Prop where
 env:Env w
 size:8≤w.heap.size
 pow:Lib.TabIs Tryz.prog w "internal/strconv.uint64pow10" .u64 Lib.pow10Tab
 syn:∃tp p,w.var? Tryz.prog "strconv.ErrSyntax" = some #[.iface tp p]
 rng:∃tp p,w.var? Tryz.prog "strconv.ErrRange" = some #[.iface tp p]
theorem EnvD.drewN{w:World}(h:EnvD w)(n:Nat):EnvD (w.drewN n):=⟨h.env.drewN n,h.size,h.pow,h.syn,h.rng⟩
theorem EnvD.below{w w':World}(h:EnvD w)(hb:Below w.heap.size w w'):EnvD w':=by
 have h8:=h.size
 have hb8:Below 8 w w':=hb.mono h8
 have key:∀name,name ∈ ["internal/strconv.uint64pow10", "strconv.ErrSyntax", "strconv.ErrRange"] → w'.var? Tryz.prog name=w.var? Tryz.prog name:=by
  intro name hn
  refine var?_below hb8 (fun g hg=>?_)
  simp only[List.mem_cons,List.mem_nil_iff,or_false]at hn
  rcases hn with rfl|rfl|rfl
  ·have : Tryz.prog.globalNamed "internal/strconv.uint64pow10" = some 0:=by kernel_rfl
   rw[this]at hg;cases hg;decide
  ·have : Tryz.prog.globalNamed "strconv.ErrSyntax" = some 2:=by kernel_rfl
   rw[this]at hg;cases hg;decide
  ·have : Tryz.prog.globalNamed "strconv.ErrRange" = some 3:=by kernel_rfl
   rw[this]at hg;cases hg;decide
 refine⟨h.env.below hb,Nat.le_trans h8 hb.size,?_,?_,?_⟩
 ·unfold Lib.TabIs;rw[key _ (by simp)];exact h.pow
 ·rw[key _ (by simp)];exact h.syn
 ·rw[key _ (by simp)];exact h.rng
end Go.Proofs.YtidplkfhodpdhaaGreatDoor.dec
namespace Go.Proofs
open Go.Shelf
def Tryz.laysPu14_ren:Go.Shelf.Ren:=⟨fun|14=>200|16=>218|17=>219|19=>236|20=>237|21=>238|22=>239|23=>240|24=>241|25=>251|27=>253|26=>252|28=>256|29=>192|30=>206|31=>207|32=>208|33=>209|35=>168|34=>224|36=>225|37=>226|38=>227|39=>244|40=>245|n=>n,fun|9=>9|3=>3|22=>157|24=>220|25=>221|4=>4|34=>257|5=>5|36=>156|37=>100|0=>0|39=>259|21=>21|44=>269|47=>249|50=>280|48=>278|2=>2|52=>233|55=>235|59=>251|60=>190|20=>20|61=>252|65=>271|66=>272|67=>232|n=>n,fun|0=>2|1=>3|2=>0|3=>4|4=>5|n=>n⟩
theorem Tryz.laysPu14:Go.Proofs.LaysPu.n14 Tryz.prog Tryz.laysPu14_ren:={
  mixed:=by kernel_rfl
  f14:=Tryz.func200.trans (congrArg some (by kernel_rfl))
  f16:=Tryz.func218.trans (congrArg some (by kernel_rfl))
  f17:=Tryz.func219.trans (congrArg some (by kernel_rfl))
  f19:=Tryz.func236.trans (congrArg some (by kernel_rfl))
  f20:=Tryz.func237.trans (congrArg some (by kernel_rfl))
  f21:=Tryz.func238.trans (congrArg some (by kernel_rfl))
  f22:=Tryz.func239.trans (congrArg some (by kernel_rfl))
  f23:=Tryz.func240.trans (congrArg some (by kernel_rfl))
  f24:=Tryz.func241.trans (congrArg some (by kernel_rfl))
  f25:=Tryz.func251.trans (congrArg some (by kernel_rfl))
  f26:=Tryz.func252.trans (congrArg some (by kernel_rfl))
  f27:=Tryz.func253.trans (congrArg some (by kernel_rfl))
  f28:=Tryz.func256.trans (congrArg some (by kernel_rfl))
  f29:=Tryz.func192.trans (congrArg some (by kernel_rfl))
  f30:=Tryz.func206.trans (congrArg some (by kernel_rfl))
  f31:=Tryz.func207.trans (congrArg some (by kernel_rfl))
  f32:=Tryz.func208.trans (congrArg some (by kernel_rfl))
  f33:=Tryz.func209.trans (congrArg some (by kernel_rfl))
  f34:=Tryz.func224.trans (congrArg some (by kernel_rfl))
  f35:=Tryz.func168.trans (congrArg some (by kernel_rfl))
  f36:=Tryz.func225.trans (congrArg some (by kernel_rfl))
  f37:=Tryz.func226.trans (congrArg some (by kernel_rfl))
  f38:=Tryz.func227.trans (congrArg some (by kernel_rfl))
  f39:=Tryz.func244.trans (congrArg some (by kernel_rfl))
  f40:=Tryz.func245.trans (congrArg some (by kernel_rfl))
  t0:=Tryz.underlying0
  a0:=Tryz.isAgg0
  z0:=Tryz.sizeOf0
  v0:=Tryz.zeroValue0
  i0:=by kernel_rfl
  t2:=Tryz.underlying2
  a2:=Tryz.isAgg2
  z2:=Tryz.sizeOf2
  v2:=Tryz.zeroValue2
  i2:=by kernel_rfl
  t3:=Tryz.underlying3
  a3:=Tryz.isAgg3
  z3:=Tryz.sizeOf3
  v3:=Tryz.zeroValue3
  i3:=by kernel_rfl
  t4:=Tryz.underlying4
  a4:=Tryz.isAgg4
  z4:=Tryz.sizeOf4
  v4:=Tryz.zeroValue4
  i4:=by kernel_rfl
  t5:=Tryz.underlying5
  a5:=Tryz.isAgg5
  z5:=Tryz.sizeOf5
  v5:=Tryz.zeroValue5
  i5:=by kernel_rfl
  t9:=Tryz.underlying9
  a9:=Tryz.isAgg9
  z9:=Tryz.sizeOf9
  v9:=Tryz.zeroValue9
  i9:=by kernel_rfl
  t20:=Tryz.underlying20
  a20:=Tryz.isAgg20
  z20:=Tryz.sizeOf20
  v20:=Tryz.zeroValue20
  i20:=by kernel_rfl
  t21:=Tryz.underlying21
  a21:=Tryz.isAgg21
  z21:=Tryz.sizeOf21
  v21:=Tryz.zeroValue21
  i21:=by kernel_rfl
  t22:=Tryz.underlying157
  a22:=Tryz.isAgg157
  z22:=Tryz.sizeOf157
  v22:=Tryz.zeroValue157
  i22:=by kernel_rfl
  t24:=Tryz.underlying220
  a24:=Tryz.isAgg220
  z24:=Tryz.sizeOf220
  v24:=Tryz.zeroValue220
  i24:=by kernel_rfl
  t25:=Tryz.underlying221
  a25:=Tryz.isAgg221
  z25:=Tryz.sizeOf221
  v25:=Tryz.zeroValue221
  i25:=by kernel_rfl
  t34:=Tryz.underlying257
  a34:=Tryz.isAgg257
  z34:=Tryz.sizeOf257
  v34:=Tryz.zeroValue257
  i34:=by kernel_rfl
  c34:=by kernel_rfl
  t36:=Tryz.underlying156
  a36:=Tryz.isAgg156
  z36:=Tryz.sizeOf156
  v36:=Tryz.zeroValue156
  i36:=by kernel_rfl
  t37:=Tryz.underlying100
  a37:=Tryz.isAgg100
  z37:=Tryz.sizeOf100
  v37:=Tryz.zeroValue100
  i37:=by kernel_rfl
  t39:=Tryz.underlying259
  a39:=Tryz.isAgg259
  z39:=Tryz.sizeOf259
  v39:=Tryz.zeroValue259
  i39:=by kernel_rfl
  t44:=Tryz.underlying269
  a44:=Tryz.isAgg269
  z44:=Tryz.sizeOf269
  v44:=Tryz.zeroValue269
  i44:=by kernel_rfl
  t47:=Tryz.underlying249
  a47:=Tryz.isAgg249
  z47:=Tryz.sizeOf249
  v47:=Tryz.zeroValue249
  i47:=by kernel_rfl
  t48:=Tryz.underlying278
  a48:=Tryz.isAgg278
  z48:=Tryz.sizeOf278
  v48:=Tryz.zeroValue278
  i48:=by kernel_rfl
  t50:=Tryz.underlying280
  a50:=Tryz.isAgg280
  z50:=Tryz.sizeOf280
  v50:=Tryz.zeroValue280
  i50:=by kernel_rfl
  t52:=Tryz.underlying233
  a52:=Tryz.isAgg233
  z52:=Tryz.sizeOf233
  v52:=Tryz.zeroValue233
  i52:=by kernel_rfl
  t55:=Tryz.underlying235
  a55:=Tryz.isAgg235
  z55:=Tryz.sizeOf235
  v55:=Tryz.zeroValue235
  i55:=by kernel_rfl
  t59:=Tryz.underlying251
  a59:=Tryz.isAgg251
  z59:=Tryz.sizeOf251
  v59:=Tryz.zeroValue251
  i59:=by kernel_rfl
  t60:=Tryz.underlying190
  a60:=Tryz.isAgg190
  z60:=Tryz.sizeOf190
  v60:=Tryz.zeroValue190
  i60:=by kernel_rfl
  t61:=Tryz.underlying252
  a61:=Tryz.isAgg252
  z61:=Tryz.sizeOf252
  t65:=Tryz.underlying271
  a65:=Tryz.isAgg271
  z65:=Tryz.sizeOf271
  v65:=Tryz.zeroValue271
  i65:=by kernel_rfl
  t66:=Tryz.underlying272
  a66:=Tryz.isAgg272
  z66:=Tryz.sizeOf272
  v66:=Tryz.zeroValue272
  i66:=by kernel_rfl
  t67:=Tryz.underlying232
  a67:=Tryz.isAgg232
  z67:=Tryz.sizeOf232
  v67:=Tryz.zeroValue232
  i67:=by kernel_rfl
  g0:=by kernel_rfl
  m0:=by kernel_rfl
  g1:=by kernel_rfl
  m1:=by kernel_rfl
  g2:=by kernel_rfl
  m2:=by kernel_rfl
  g3:=by kernel_rfl
  m3:=by kernel_rfl
  g4:=by kernel_rfl
  m4:=by kernel_rfl }
open Go.RowKit in
/-- strconv.ParseUint(s,10,64),AT EVERY STRING THAT SPELLS A uint64 ('Lib.parseUintB 64 s.data.toList=.ok u'): u,AND NO ERROR. (LAID: no walk: one application.) -/
theorem Tryz.strconv_ParseUint_10_at64_ok(s:ByteArray)(hmax:s.size≤9223372036854775806)(u:Nat)(h:Lib.parseUintB 64 s.data.toList=.ok u)(w:World):
    Calls Tryz.prog 200 #[.string s,.int .i64 10,.int .i64 64] w fun e w'=>e=.returned (.tuple #[.int .u64 u,.nilIface])∧(w'=w∨w'=Lib.bytesWorld w 5 s):=Any.strconv_ParseUint_10_at64_ok Tryz.laysPu14 s hmax u h w
end Go.Proofs
