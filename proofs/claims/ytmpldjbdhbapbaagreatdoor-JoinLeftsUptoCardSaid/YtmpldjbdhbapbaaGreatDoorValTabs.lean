/- Texts ValPart, ValTa, VTa, one behind the other. -/
import Derived.Test.YtmpldjbdhbapbaaGreatDoorValMem
set_option linter.unusedSimpArgs false
set_option linter.unusedVariables false
set_option maxRecDepth 100000
set_option maxHeartbeats 1000000
namespace Go.Proofs.YtmpldjbdhbapbaaGreatDoor.val
open Go.ChangeShapes Go.WideShapes Go.ChangeAt Go.RowKit kit
def partV(k:Int)(b:Bool)(n:Int)(t x:ByteArray)(s:Value):Value:=
 if k=0 then .iface 167 (.agg #[]) else if k=1 then .iface 168 (.bool b) else if k=2 then .iface 169 (.int .i64 n) else if k=3 then .iface 170 (.string t)
 else if k=4∨k=8∨k=9 then .iface 171 (.string t) else if k=5 then .iface 172 s else if k=6∨k=7 then .iface 174 (.int .i64 n)
 else if k=10 then .iface 176 (.agg #[.string t,.string x]) else .iface 177 (.int .i64 k)
theorem kinds(k:Int):k=0∨k=1∨k=2∨k=3∨k=4∨k=5∨k=6∨k=7∨k=8∨k=9∨k=10∨(k≠0∧k≠1∧k≠2∧k≠3∧k≠4∧k≠5∧k≠6∧k≠7∧k≠8∧k≠9∧k≠10):=by omega
theorem part_any(k:Int)(b:Bool)(n:Int)(t x:ByteArray)(s:Value)(w:World):Calls Tryz.prog 95 #[agg6 k b n t x s] w fun e w'=>e=.returned (partV k b n t x s)∧Below w.heap.size w w':=by
 unfold agg6
 have hb:Below w.heap.size w (w.alloc (.cells #[.int .i64 k,.bool b,.int .i64 n,.string t,.string x,s] 34)):=(Below.refl _ _).alloc (Nat.le_refl _) _
 replace hb:=Hd hb
 rcases kinds k with rfl|rfl|rfl|rfl|rfl|rfl|rfl|rfl|rfl|rfl|rfl|⟨h0,h1,h2,h3,h4,h5,h6,h7,h8,h9,h10⟩
 iterate 11
  ·go_enter Tryz.func95,Tryz.ntmps95
   go_wp2
   go_ret
   exact⟨rfl,hb.out⟩
 ·have hp:partV k b n t x s=.iface 177 (.int .i64 k):=by
   unfold partV
   rw[if_neg h0,if_neg h1,if_neg h2,if_neg h3,if_neg (by omega),if_neg h5,if_neg (by omega),if_neg h10]
  rw[hp]
  have q0:(k==0)=false:=by simpa using h0
  have q1:(k==1)=false:=by simpa using h1
  have q2:(k==2)=false:=by simpa using h2
  have q3:(k==3)=false:=by simpa using h3
  have q4:(k==4)=false:=by simpa using h4
  have q5:(k==5)=false:=by simpa using h5
  have q6:(k==6)=false:=by simpa using h6
  have q7:(k==7)=false:=by simpa using h7
  have q8:(k==8)=false:=by simpa using h8
  have q9:(k==9)=false:=by simpa using h9
  have q10:(k==10)=false:=by simpa using h10
  clear hp h0 h1 h2 h3 h4 h5 h6 h7 h8 h9 h10
  go_enter Tryz.func95,Tryz.ntmps95
  go_wp2
  go_ret
  exact⟨rfl,hb.out⟩
theorem ta_0_0(v:Value)(w:World):(Instr.typeAssert (.iface 167 v) 20 167 true).run Tryz.prog w=.ok (.tuple #[v,.bool true]) w:=by kernel_rfl
theorem ta_1_0(v:Value)(w:World):(Instr.typeAssert (.iface 168 v) 20 167 true).run Tryz.prog w=.ok (.tuple #[.agg #[],.bool false]) w:=by kernel_rfl
theorem ta_1_1(v:Value)(w:World):(Instr.typeAssert (.iface 168 v) 20 168 true).run Tryz.prog w=.ok (.tuple #[v,.bool true]) w:=by kernel_rfl
theorem ta_2_0(v:Value)(w:World):(Instr.typeAssert (.iface 169 v) 20 167 true).run Tryz.prog w=.ok (.tuple #[.agg #[],.bool false]) w:=by kernel_rfl
theorem ta_2_1(v:Value)(w:World):(Instr.typeAssert (.iface 169 v) 20 168 true).run Tryz.prog w=.ok (.tuple #[.bool false,.bool false]) w:=by kernel_rfl
theorem ta_2_2(v:Value)(w:World):(Instr.typeAssert (.iface 169 v) 20 169 true).run Tryz.prog w=.ok (.tuple #[v,.bool true]) w:=by kernel_rfl
theorem ta_3_0(v:Value)(w:World):(Instr.typeAssert (.iface 170 v) 20 167 true).run Tryz.prog w=.ok (.tuple #[.agg #[],.bool false]) w:=by kernel_rfl
theorem ta_3_1(v:Value)(w:World):(Instr.typeAssert (.iface 170 v) 20 168 true).run Tryz.prog w=.ok (.tuple #[.bool false,.bool false]) w:=by kernel_rfl
theorem ta_3_2(v:Value)(w:World):(Instr.typeAssert (.iface 170 v) 20 169 true).run Tryz.prog w=.ok (.tuple #[.int .i64 0,.bool false]) w:=by kernel_rfl
theorem ta_3_3(v:Value)(w:World):(Instr.typeAssert (.iface 170 v) 20 170 true).run Tryz.prog w=.ok (.tuple #[v,.bool true]) w:=by kernel_rfl
theorem ta_4_0(v:Value)(w:World):(Instr.typeAssert (.iface 171 v) 20 167 true).run Tryz.prog w=.ok (.tuple #[.agg #[],.bool false]) w:=by kernel_rfl
theorem ta_4_1(v:Value)(w:World):(Instr.typeAssert (.iface 171 v) 20 168 true).run Tryz.prog w=.ok (.tuple #[.bool false,.bool false]) w:=by kernel_rfl
theorem ta_4_2(v:Value)(w:World):(Instr.typeAssert (.iface 171 v) 20 169 true).run Tryz.prog w=.ok (.tuple #[.int .i64 0,.bool false]) w:=by kernel_rfl
theorem ta_4_3(v:Value)(w:World):(Instr.typeAssert (.iface 171 v) 20 170 true).run Tryz.prog w=.ok (.tuple #[.string ⟨#[]⟩,.bool false]) w:=by kernel_rfl
theorem ta_4_4(v:Value)(w:World):(Instr.typeAssert (.iface 171 v) 20 171 true).run Tryz.prog w=.ok (.tuple #[v,.bool true]) w:=by kernel_rfl
theorem ta_5_0(v:Value)(w:World):(Instr.typeAssert (.iface 172 v) 20 167 true).run Tryz.prog w=.ok (.tuple #[.agg #[],.bool false]) w:=by kernel_rfl
theorem ta_5_1(v:Value)(w:World):(Instr.typeAssert (.iface 172 v) 20 168 true).run Tryz.prog w=.ok (.tuple #[.bool false,.bool false]) w:=by kernel_rfl
theorem ta_5_2(v:Value)(w:World):(Instr.typeAssert (.iface 172 v) 20 169 true).run Tryz.prog w=.ok (.tuple #[.int .i64 0,.bool false]) w:=by kernel_rfl
theorem ta_5_3(v:Value)(w:World):(Instr.typeAssert (.iface 172 v) 20 170 true).run Tryz.prog w=.ok (.tuple #[.string ⟨#[]⟩,.bool false]) w:=by kernel_rfl
theorem ta_5_4(v:Value)(w:World):(Instr.typeAssert (.iface 172 v) 20 171 true).run Tryz.prog w=.ok (.tuple #[.string ⟨#[]⟩,.bool false]) w:=by kernel_rfl
theorem ta_5_5(v:Value)(w:World):(Instr.typeAssert (.iface 172 v) 20 172 true).run Tryz.prog w=.ok (.tuple #[v,.bool true]) w:=by kernel_rfl
theorem ta_6_0(v:Value)(w:World):(Instr.typeAssert (.iface 174 v) 20 167 true).run Tryz.prog w=.ok (.tuple #[.agg #[],.bool false]) w:=by kernel_rfl
theorem ta_6_1(v:Value)(w:World):(Instr.typeAssert (.iface 174 v) 20 168 true).run Tryz.prog w=.ok (.tuple #[.bool false,.bool false]) w:=by kernel_rfl
theorem ta_6_2(v:Value)(w:World):(Instr.typeAssert (.iface 174 v) 20 169 true).run Tryz.prog w=.ok (.tuple #[.int .i64 0,.bool false]) w:=by kernel_rfl
theorem ta_6_3(v:Value)(w:World):(Instr.typeAssert (.iface 174 v) 20 170 true).run Tryz.prog w=.ok (.tuple #[.string ⟨#[]⟩,.bool false]) w:=by kernel_rfl
theorem ta_6_4(v:Value)(w:World):(Instr.typeAssert (.iface 174 v) 20 171 true).run Tryz.prog w=.ok (.tuple #[.string ⟨#[]⟩,.bool false]) w:=by kernel_rfl
theorem ta_6_5(v:Value)(w:World):(Instr.typeAssert (.iface 174 v) 20 172 true).run Tryz.prog w=.ok (.tuple #[.slice none 0 0,.bool false]) w:=by kernel_rfl
theorem ta_6_6(v:Value)(w:World):(Instr.typeAssert (.iface 174 v) 20 174 true).run Tryz.prog w=.ok (.tuple #[v,.bool true]) w:=by kernel_rfl
theorem ta_7_0(v:Value)(w:World):(Instr.typeAssert (.iface 176 v) 20 167 true).run Tryz.prog w=.ok (.tuple #[.agg #[],.bool false]) w:=by kernel_rfl
theorem ta_7_1(v:Value)(w:World):(Instr.typeAssert (.iface 176 v) 20 168 true).run Tryz.prog w=.ok (.tuple #[.bool false,.bool false]) w:=by kernel_rfl
theorem ta_7_2(v:Value)(w:World):(Instr.typeAssert (.iface 176 v) 20 169 true).run Tryz.prog w=.ok (.tuple #[.int .i64 0,.bool false]) w:=by kernel_rfl
theorem ta_7_3(v:Value)(w:World):(Instr.typeAssert (.iface 176 v) 20 170 true).run Tryz.prog w=.ok (.tuple #[.string ⟨#[]⟩,.bool false]) w:=by kernel_rfl
theorem ta_7_4(v:Value)(w:World):(Instr.typeAssert (.iface 176 v) 20 171 true).run Tryz.prog w=.ok (.tuple #[.string ⟨#[]⟩,.bool false]) w:=by kernel_rfl
theorem ta_7_5(v:Value)(w:World):(Instr.typeAssert (.iface 176 v) 20 172 true).run Tryz.prog w=.ok (.tuple #[.slice none 0 0,.bool false]) w:=by kernel_rfl
theorem ta_7_6(v:Value)(w:World):(Instr.typeAssert (.iface 176 v) 20 174 true).run Tryz.prog w=.ok (.tuple #[.int .i64 0,.bool false]) w:=by kernel_rfl
theorem ta_7_7(v:Value)(w:World):(Instr.typeAssert (.iface 176 v) 20 176 true).run Tryz.prog w=.ok (.tuple #[v,.bool true]) w:=by kernel_rfl
theorem ta_8_0(v:Value)(w:World):(Instr.typeAssert (.iface 177 v) 20 167 true).run Tryz.prog w=.ok (.tuple #[.agg #[],.bool false]) w:=by kernel_rfl
theorem ta_8_1(v:Value)(w:World):(Instr.typeAssert (.iface 177 v) 20 168 true).run Tryz.prog w=.ok (.tuple #[.bool false,.bool false]) w:=by kernel_rfl
theorem ta_8_2(v:Value)(w:World):(Instr.typeAssert (.iface 177 v) 20 169 true).run Tryz.prog w=.ok (.tuple #[.int .i64 0,.bool false]) w:=by kernel_rfl
theorem ta_8_3(v:Value)(w:World):(Instr.typeAssert (.iface 177 v) 20 170 true).run Tryz.prog w=.ok (.tuple #[.string ⟨#[]⟩,.bool false]) w:=by kernel_rfl
theorem ta_8_4(v:Value)(w:World):(Instr.typeAssert (.iface 177 v) 20 171 true).run Tryz.prog w=.ok (.tuple #[.string ⟨#[]⟩,.bool false]) w:=by kernel_rfl
theorem ta_8_5(v:Value)(w:World):(Instr.typeAssert (.iface 177 v) 20 172 true).run Tryz.prog w=.ok (.tuple #[.slice none 0 0,.bool false]) w:=by kernel_rfl
theorem ta_8_6(v:Value)(w:World):(Instr.typeAssert (.iface 177 v) 20 174 true).run Tryz.prog w=.ok (.tuple #[.int .i64 0,.bool false]) w:=by kernel_rfl
theorem ta_8_7(v:Value)(w:World):(Instr.typeAssert (.iface 177 v) 20 176 true).run Tryz.prog w=.ok (.tuple #[.agg #[.string ⟨#[]⟩,.string ⟨#[]⟩],.bool false]) w:=by kernel_rfl
theorem ta_8_8(v:Value)(w:World):(Instr.typeAssert (.iface 177 v) 20 177 true).run Tryz.prog w=.ok (.tuple #[v,.bool true]) w:=by kernel_rfl
theorem tb_0_0(v:Value)(w:World):(Instr.typeAssert (.iface 167 v) 20 167 true).run Tryz.prog w=.ok (.tuple #[v,.bool true]) w:=by kernel_rfl
theorem tb_0_1(v:Value)(w:World):(Instr.typeAssert (.iface 167 v) 20 168 true).run Tryz.prog w=.ok (.tuple #[.bool false,.bool false]) w:=by kernel_rfl
theorem tb_0_2(v:Value)(w:World):(Instr.typeAssert (.iface 167 v) 20 169 true).run Tryz.prog w=.ok (.tuple #[.int .i64 0,.bool false]) w:=by kernel_rfl
theorem tb_0_3(v:Value)(w:World):(Instr.typeAssert (.iface 167 v) 20 170 true).run Tryz.prog w=.ok (.tuple #[.string ⟨#[]⟩,.bool false]) w:=by kernel_rfl
theorem tb_0_4(v:Value)(w:World):(Instr.typeAssert (.iface 167 v) 20 171 true).run Tryz.prog w=.ok (.tuple #[.string ⟨#[]⟩,.bool false]) w:=by kernel_rfl
theorem tb_0_5(v:Value)(w:World):(Instr.typeAssert (.iface 167 v) 20 172 true).run Tryz.prog w=.ok (.tuple #[.slice none 0 0,.bool false]) w:=by kernel_rfl
theorem tb_0_6(v:Value)(w:World):(Instr.typeAssert (.iface 167 v) 20 174 true).run Tryz.prog w=.ok (.tuple #[.int .i64 0,.bool false]) w:=by kernel_rfl
theorem tb_0_7(v:Value)(w:World):(Instr.typeAssert (.iface 167 v) 20 176 true).run Tryz.prog w=.ok (.tuple #[.agg #[.string ⟨#[]⟩,.string ⟨#[]⟩],.bool false]) w:=by kernel_rfl
theorem tb_0_8(v:Value)(w:World):(Instr.typeAssert (.iface 167 v) 20 177 true).run Tryz.prog w=.ok (.tuple #[.int .i64 0,.bool false]) w:=by kernel_rfl
theorem tb_1_0(v:Value)(w:World):(Instr.typeAssert (.iface 168 v) 20 167 true).run Tryz.prog w=.ok (.tuple #[.agg #[],.bool false]) w:=by kernel_rfl
theorem tb_1_1(v:Value)(w:World):(Instr.typeAssert (.iface 168 v) 20 168 true).run Tryz.prog w=.ok (.tuple #[v,.bool true]) w:=by kernel_rfl
theorem tb_1_2(v:Value)(w:World):(Instr.typeAssert (.iface 168 v) 20 169 true).run Tryz.prog w=.ok (.tuple #[.int .i64 0,.bool false]) w:=by kernel_rfl
theorem tb_1_3(v:Value)(w:World):(Instr.typeAssert (.iface 168 v) 20 170 true).run Tryz.prog w=.ok (.tuple #[.string ⟨#[]⟩,.bool false]) w:=by kernel_rfl
theorem tb_1_4(v:Value)(w:World):(Instr.typeAssert (.iface 168 v) 20 171 true).run Tryz.prog w=.ok (.tuple #[.string ⟨#[]⟩,.bool false]) w:=by kernel_rfl
theorem tb_1_5(v:Value)(w:World):(Instr.typeAssert (.iface 168 v) 20 172 true).run Tryz.prog w=.ok (.tuple #[.slice none 0 0,.bool false]) w:=by kernel_rfl
theorem tb_1_6(v:Value)(w:World):(Instr.typeAssert (.iface 168 v) 20 174 true).run Tryz.prog w=.ok (.tuple #[.int .i64 0,.bool false]) w:=by kernel_rfl
theorem tb_1_7(v:Value)(w:World):(Instr.typeAssert (.iface 168 v) 20 176 true).run Tryz.prog w=.ok (.tuple #[.agg #[.string ⟨#[]⟩,.string ⟨#[]⟩],.bool false]) w:=by kernel_rfl
theorem tb_1_8(v:Value)(w:World):(Instr.typeAssert (.iface 168 v) 20 177 true).run Tryz.prog w=.ok (.tuple #[.int .i64 0,.bool false]) w:=by kernel_rfl
theorem tb_2_0(v:Value)(w:World):(Instr.typeAssert (.iface 169 v) 20 167 true).run Tryz.prog w=.ok (.tuple #[.agg #[],.bool false]) w:=by kernel_rfl
theorem tb_2_1(v:Value)(w:World):(Instr.typeAssert (.iface 169 v) 20 168 true).run Tryz.prog w=.ok (.tuple #[.bool false,.bool false]) w:=by kernel_rfl
theorem tb_2_2(v:Value)(w:World):(Instr.typeAssert (.iface 169 v) 20 169 true).run Tryz.prog w=.ok (.tuple #[v,.bool true]) w:=by kernel_rfl
theorem tb_2_3(v:Value)(w:World):(Instr.typeAssert (.iface 169 v) 20 170 true).run Tryz.prog w=.ok (.tuple #[.string ⟨#[]⟩,.bool false]) w:=by kernel_rfl
theorem tb_2_4(v:Value)(w:World):(Instr.typeAssert (.iface 169 v) 20 171 true).run Tryz.prog w=.ok (.tuple #[.string ⟨#[]⟩,.bool false]) w:=by kernel_rfl
theorem tb_2_5(v:Value)(w:World):(Instr.typeAssert (.iface 169 v) 20 172 true).run Tryz.prog w=.ok (.tuple #[.slice none 0 0,.bool false]) w:=by kernel_rfl
theorem tb_2_6(v:Value)(w:World):(Instr.typeAssert (.iface 169 v) 20 174 true).run Tryz.prog w=.ok (.tuple #[.int .i64 0,.bool false]) w:=by kernel_rfl
theorem tb_2_7(v:Value)(w:World):(Instr.typeAssert (.iface 169 v) 20 176 true).run Tryz.prog w=.ok (.tuple #[.agg #[.string ⟨#[]⟩,.string ⟨#[]⟩],.bool false]) w:=by kernel_rfl
theorem tb_2_8(v:Value)(w:World):(Instr.typeAssert (.iface 169 v) 20 177 true).run Tryz.prog w=.ok (.tuple #[.int .i64 0,.bool false]) w:=by kernel_rfl
theorem tb_3_0(v:Value)(w:World):(Instr.typeAssert (.iface 170 v) 20 167 true).run Tryz.prog w=.ok (.tuple #[.agg #[],.bool false]) w:=by kernel_rfl
theorem tb_3_1(v:Value)(w:World):(Instr.typeAssert (.iface 170 v) 20 168 true).run Tryz.prog w=.ok (.tuple #[.bool false,.bool false]) w:=by kernel_rfl
theorem tb_3_2(v:Value)(w:World):(Instr.typeAssert (.iface 170 v) 20 169 true).run Tryz.prog w=.ok (.tuple #[.int .i64 0,.bool false]) w:=by kernel_rfl
theorem tb_3_3(v:Value)(w:World):(Instr.typeAssert (.iface 170 v) 20 170 true).run Tryz.prog w=.ok (.tuple #[v,.bool true]) w:=by kernel_rfl
theorem tb_3_4(v:Value)(w:World):(Instr.typeAssert (.iface 170 v) 20 171 true).run Tryz.prog w=.ok (.tuple #[.string ⟨#[]⟩,.bool false]) w:=by kernel_rfl
theorem tb_3_5(v:Value)(w:World):(Instr.typeAssert (.iface 170 v) 20 172 true).run Tryz.prog w=.ok (.tuple #[.slice none 0 0,.bool false]) w:=by kernel_rfl
theorem tb_3_6(v:Value)(w:World):(Instr.typeAssert (.iface 170 v) 20 174 true).run Tryz.prog w=.ok (.tuple #[.int .i64 0,.bool false]) w:=by kernel_rfl
theorem tb_3_7(v:Value)(w:World):(Instr.typeAssert (.iface 170 v) 20 176 true).run Tryz.prog w=.ok (.tuple #[.agg #[.string ⟨#[]⟩,.string ⟨#[]⟩],.bool false]) w:=by kernel_rfl
theorem tb_3_8(v:Value)(w:World):(Instr.typeAssert (.iface 170 v) 20 177 true).run Tryz.prog w=.ok (.tuple #[.int .i64 0,.bool false]) w:=by kernel_rfl
theorem tb_4_0(v:Value)(w:World):(Instr.typeAssert (.iface 171 v) 20 167 true).run Tryz.prog w=.ok (.tuple #[.agg #[],.bool false]) w:=by kernel_rfl
theorem tb_4_1(v:Value)(w:World):(Instr.typeAssert (.iface 171 v) 20 168 true).run Tryz.prog w=.ok (.tuple #[.bool false,.bool false]) w:=by kernel_rfl
theorem tb_4_2(v:Value)(w:World):(Instr.typeAssert (.iface 171 v) 20 169 true).run Tryz.prog w=.ok (.tuple #[.int .i64 0,.bool false]) w:=by kernel_rfl
theorem tb_4_3(v:Value)(w:World):(Instr.typeAssert (.iface 171 v) 20 170 true).run Tryz.prog w=.ok (.tuple #[.string ⟨#[]⟩,.bool false]) w:=by kernel_rfl
theorem tb_4_4(v:Value)(w:World):(Instr.typeAssert (.iface 171 v) 20 171 true).run Tryz.prog w=.ok (.tuple #[v,.bool true]) w:=by kernel_rfl
theorem tb_4_5(v:Value)(w:World):(Instr.typeAssert (.iface 171 v) 20 172 true).run Tryz.prog w=.ok (.tuple #[.slice none 0 0,.bool false]) w:=by kernel_rfl
theorem tb_4_6(v:Value)(w:World):(Instr.typeAssert (.iface 171 v) 20 174 true).run Tryz.prog w=.ok (.tuple #[.int .i64 0,.bool false]) w:=by kernel_rfl
theorem tb_4_7(v:Value)(w:World):(Instr.typeAssert (.iface 171 v) 20 176 true).run Tryz.prog w=.ok (.tuple #[.agg #[.string ⟨#[]⟩,.string ⟨#[]⟩],.bool false]) w:=by kernel_rfl
theorem tb_4_8(v:Value)(w:World):(Instr.typeAssert (.iface 171 v) 20 177 true).run Tryz.prog w=.ok (.tuple #[.int .i64 0,.bool false]) w:=by kernel_rfl
theorem tb_5_0(v:Value)(w:World):(Instr.typeAssert (.iface 172 v) 20 167 true).run Tryz.prog w=.ok (.tuple #[.agg #[],.bool false]) w:=by kernel_rfl
theorem tb_5_1(v:Value)(w:World):(Instr.typeAssert (.iface 172 v) 20 168 true).run Tryz.prog w=.ok (.tuple #[.bool false,.bool false]) w:=by kernel_rfl
theorem tb_5_2(v:Value)(w:World):(Instr.typeAssert (.iface 172 v) 20 169 true).run Tryz.prog w=.ok (.tuple #[.int .i64 0,.bool false]) w:=by kernel_rfl
theorem tb_5_3(v:Value)(w:World):(Instr.typeAssert (.iface 172 v) 20 170 true).run Tryz.prog w=.ok (.tuple #[.string ⟨#[]⟩,.bool false]) w:=by kernel_rfl
theorem tb_5_4(v:Value)(w:World):(Instr.typeAssert (.iface 172 v) 20 171 true).run Tryz.prog w=.ok (.tuple #[.string ⟨#[]⟩,.bool false]) w:=by kernel_rfl
theorem tb_5_5(v:Value)(w:World):(Instr.typeAssert (.iface 172 v) 20 172 true).run Tryz.prog w=.ok (.tuple #[v,.bool true]) w:=by kernel_rfl
theorem tb_5_6(v:Value)(w:World):(Instr.typeAssert (.iface 172 v) 20 174 true).run Tryz.prog w=.ok (.tuple #[.int .i64 0,.bool false]) w:=by kernel_rfl
theorem tb_5_7(v:Value)(w:World):(Instr.typeAssert (.iface 172 v) 20 176 true).run Tryz.prog w=.ok (.tuple #[.agg #[.string ⟨#[]⟩,.string ⟨#[]⟩],.bool false]) w:=by kernel_rfl
theorem tb_5_8(v:Value)(w:World):(Instr.typeAssert (.iface 172 v) 20 177 true).run Tryz.prog w=.ok (.tuple #[.int .i64 0,.bool false]) w:=by kernel_rfl
theorem tb_6_0(v:Value)(w:World):(Instr.typeAssert (.iface 174 v) 20 167 true).run Tryz.prog w=.ok (.tuple #[.agg #[],.bool false]) w:=by kernel_rfl
theorem tb_6_1(v:Value)(w:World):(Instr.typeAssert (.iface 174 v) 20 168 true).run Tryz.prog w=.ok (.tuple #[.bool false,.bool false]) w:=by kernel_rfl
theorem tb_6_2(v:Value)(w:World):(Instr.typeAssert (.iface 174 v) 20 169 true).run Tryz.prog w=.ok (.tuple #[.int .i64 0,.bool false]) w:=by kernel_rfl
theorem tb_6_3(v:Value)(w:World):(Instr.typeAssert (.iface 174 v) 20 170 true).run Tryz.prog w=.ok (.tuple #[.string ⟨#[]⟩,.bool false]) w:=by kernel_rfl
theorem tb_6_4(v:Value)(w:World):(Instr.typeAssert (.iface 174 v) 20 171 true).run Tryz.prog w=.ok (.tuple #[.string ⟨#[]⟩,.bool false]) w:=by kernel_rfl
theorem tb_6_5(v:Value)(w:World):(Instr.typeAssert (.iface 174 v) 20 172 true).run Tryz.prog w=.ok (.tuple #[.slice none 0 0,.bool false]) w:=by kernel_rfl
theorem tb_6_6(v:Value)(w:World):(Instr.typeAssert (.iface 174 v) 20 174 true).run Tryz.prog w=.ok (.tuple #[v,.bool true]) w:=by kernel_rfl
theorem tb_6_7(v:Value)(w:World):(Instr.typeAssert (.iface 174 v) 20 176 true).run Tryz.prog w=.ok (.tuple #[.agg #[.string ⟨#[]⟩,.string ⟨#[]⟩],.bool false]) w:=by kernel_rfl
theorem tb_6_8(v:Value)(w:World):(Instr.typeAssert (.iface 174 v) 20 177 true).run Tryz.prog w=.ok (.tuple #[.int .i64 0,.bool false]) w:=by kernel_rfl
theorem tb_7_0(v:Value)(w:World):(Instr.typeAssert (.iface 176 v) 20 167 true).run Tryz.prog w=.ok (.tuple #[.agg #[],.bool false]) w:=by kernel_rfl
theorem tb_7_1(v:Value)(w:World):(Instr.typeAssert (.iface 176 v) 20 168 true).run Tryz.prog w=.ok (.tuple #[.bool false,.bool false]) w:=by kernel_rfl
theorem tb_7_2(v:Value)(w:World):(Instr.typeAssert (.iface 176 v) 20 169 true).run Tryz.prog w=.ok (.tuple #[.int .i64 0,.bool false]) w:=by kernel_rfl
theorem tb_7_3(v:Value)(w:World):(Instr.typeAssert (.iface 176 v) 20 170 true).run Tryz.prog w=.ok (.tuple #[.string ⟨#[]⟩,.bool false]) w:=by kernel_rfl
theorem tb_7_4(v:Value)(w:World):(Instr.typeAssert (.iface 176 v) 20 171 true).run Tryz.prog w=.ok (.tuple #[.string ⟨#[]⟩,.bool false]) w:=by kernel_rfl
theorem tb_7_5(v:Value)(w:World):(Instr.typeAssert (.iface 176 v) 20 172 true).run Tryz.prog w=.ok (.tuple #[.slice none 0 0,.bool false]) w:=by kernel_rfl
theorem tb_7_6(v:Value)(w:World):(Instr.typeAssert (.iface 176 v) 20 174 true).run Tryz.prog w=.ok (.tuple #[.int .i64 0,.bool false]) w:=by kernel_rfl
theorem tb_7_7(v:Value)(w:World):(Instr.typeAssert (.iface 176 v) 20 176 true).run Tryz.prog w=.ok (.tuple #[v,.bool true]) w:=by kernel_rfl
theorem tb_7_8(v:Value)(w:World):(Instr.typeAssert (.iface 176 v) 20 177 true).run Tryz.prog w=.ok (.tuple #[.int .i64 0,.bool false]) w:=by kernel_rfl
theorem tb_8_0(v:Value)(w:World):(Instr.typeAssert (.iface 177 v) 20 167 true).run Tryz.prog w=.ok (.tuple #[.agg #[],.bool false]) w:=by kernel_rfl
theorem tb_8_1(v:Value)(w:World):(Instr.typeAssert (.iface 177 v) 20 168 true).run Tryz.prog w=.ok (.tuple #[.bool false,.bool false]) w:=by kernel_rfl
theorem tb_8_2(v:Value)(w:World):(Instr.typeAssert (.iface 177 v) 20 169 true).run Tryz.prog w=.ok (.tuple #[.int .i64 0,.bool false]) w:=by kernel_rfl
theorem tb_8_3(v:Value)(w:World):(Instr.typeAssert (.iface 177 v) 20 170 true).run Tryz.prog w=.ok (.tuple #[.string ⟨#[]⟩,.bool false]) w:=by kernel_rfl
theorem tb_8_4(v:Value)(w:World):(Instr.typeAssert (.iface 177 v) 20 171 true).run Tryz.prog w=.ok (.tuple #[.string ⟨#[]⟩,.bool false]) w:=by kernel_rfl
theorem tb_8_5(v:Value)(w:World):(Instr.typeAssert (.iface 177 v) 20 172 true).run Tryz.prog w=.ok (.tuple #[.slice none 0 0,.bool false]) w:=by kernel_rfl
theorem tb_8_6(v:Value)(w:World):(Instr.typeAssert (.iface 177 v) 20 174 true).run Tryz.prog w=.ok (.tuple #[.int .i64 0,.bool false]) w:=by kernel_rfl
theorem tb_8_7(v:Value)(w:World):(Instr.typeAssert (.iface 177 v) 20 176 true).run Tryz.prog w=.ok (.tuple #[.agg #[.string ⟨#[]⟩,.string ⟨#[]⟩],.bool false]) w:=by kernel_rfl
theorem tb_8_8(v:Value)(w:World):(Instr.typeAssert (.iface 177 v) 20 177 true).run Tryz.prog w=.ok (.tuple #[v,.bool true]) w:=by kernel_rfl
end Go.Proofs.YtmpldjbdhbapbaaGreatDoor.val
