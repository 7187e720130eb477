/- A literal condition: expr's HasAgg, Eval, Truth of it. -/
import Derived.Test.YtmpldjbdhbapbaaGreatDoorXLit
import Derived.Test.YtmpldjbdhbapbaaGreatDoorVMadeA
import Derived.Test.YtmpldjbdhbapbaaGreatDoorRefA
set_option linter.unusedSimpArgs false
set_option linter.unusedVariables false
set_option maxHeartbeats 4000000
namespace Go.Proofs.YtmpldjbdhbapbaaGreatDoor.tab
open Go.ChangeShapes Go.WideShapes Go.ChangeAt Go.RowKit kit dec val
set_option maxRecDepth 100000
theorem res3{P:Program}{fn:Func}{p u z:Tmp}{ty:TypeId}(h:fn.results=#[.cell p ty,.tmp u,.tmp z])(tmps:Array Value)(w:World)(g:Nat)(t:TypeId)(cs:Array Value)(fr:Nat×Nat)(d:TypeDesc)(v v2:Value)(hv:tmps.getD u undef=v)(hv2:tmps.getD z undef=v2)
 (hp:tmps.getD p undef=.pointer (some ⟨g,0,none⟩))(hg:w.heap[g]? = some (.cells cs t fr))
 (hu:P.underlying ty=some d)(hd:(match d with|.struct _|.array _ _=>true|_=>false)=true)(hi:(P.info? ty).map (·.size)=some cs.size):
 (results fn tmps).run P w=.ok (.tuple #[.agg cs,v,v2]) w:=by
 subst hv hv2
 have e:(results fn tmps).run P w=((asAddr (tmps.getD p undef)).run P w).andThen fun a w₁=>((loadVar ty a).run P w₁).andThen fun v w₂=>.ok (.tuple #[v,tmps.getD u undef,tmps.getD z undef]) w₂:=by
  simp only[results,h]
  simp[Sem.run_bind,Result.andThen]
 rw[e,hp]
 simp only[asAddr,Sem.run_pure,Result.andThen_ok,run_loadVar_row w g t ty cs fr d hg hu hd hi]
def tvB(b:Bool):Int:=if b=true then 1 else 0
theorem not_nil(W:World)(u:TypeId)(v:Value):(binOp .eql 64 (.iface u v) .nilIface).run Tryz.prog W=.ok (.bool false) W:=by kernel_rfl
theorem xhas1_lit(w:World)(hb:Nat)(b:Bool)(h:Blk w hb #[.bool false] 4):Calls Tryz.prog 53 #[.agg #[.int .i64 1,.string ByteArray.empty,.int .i64 1,.bool b,.int .i64 0,.string ByteArray.empty,.string ByteArray.empty,.slice none 0 0,.bool false,.slice none 0 0,.slice none 0 0,.slice none 0 0,.slice none 0 0],.pointer (some ⟨hb,0,none⟩)] w fun e w'=>e=.returned (.tuple #[])∧Keep [hb] w w'∧Blk w' hb #[.bool false] 4:=by
 have hq:=Blk.new w #[.int .i64 1,.string ByteArray.empty,.int .i64 1,.bool b,.int .i64 0,.string ByteArray.empty,.string ByteArray.empty,.slice none 0 0,.bool false,.slice none 0 0,.slice none 0 0,.slice none 0 0,.slice none 0 0] 39
 have h2:=h.alloc (.cells #[.int .i64 1,.string ByteArray.empty,.int .i64 1,.bool b,.int .i64 0,.string ByteArray.empty,.string ByteArray.empty,.slice none 0 0,.bool false,.slice none 0 0,.slice none 0 0,.slice none 0 0,.slice none 0 0] 39)
 have x0:=hq.cell 0 rfl
 have z0:=h2.cell 0 rfl
 have f0:=h2.free 0
 have hk:=Hd (((Keep.refl [hb] w).alloc (.cells #[.int .i64 1,.string ByteArray.empty,.int .i64 1,.bool b,.int .i64 0,.string ByteArray.empty,.string ByteArray.empty,.slice none 0 0,.bool false,.slice none 0 0,.slice none 0 0,.slice none 0 0,.slice none 0 0] 39)).setCell (p:=⟨hb,0,none⟩) (by simp) (.bool false))
 have hf:=Hd (h2.set 0 (.bool false))
 clear hq h2 h
 go_enter Tryz.func53,Tryz.ntmps53
 go_wp2
 go_end0
 exact⟨rfl,hk.out,hf.out⟩
theorem xwalk_lit(w:World)(hb:Nat)(b:Bool)(h:Blk w hb #[.bool false] 4):Calls Tryz.prog 52 #[.agg #[.int .i64 1,.string ByteArray.empty,.int .i64 1,.bool b,.int .i64 0,.string ByteArray.empty,.string ByteArray.empty,.slice none 0 0,.bool false,.slice none 0 0,.slice none 0 0,.slice none 0 0,.slice none 0 0],.int .i64 1,.func (.func 53) #[] #[.pointer (some ⟨hb,0,none⟩)]] w fun e w'=>e=.returned (.tuple #[])∧Keep [hb] w w'∧Blk w' hb #[.bool false] 4:=by
 have hq:=Blk.new w #[.int .i64 1,.string ByteArray.empty,.int .i64 1,.bool b,.int .i64 0,.string ByteArray.empty,.string ByteArray.empty,.slice none 0 0,.bool false,.slice none 0 0,.slice none 0 0,.slice none 0 0,.slice none 0 0] 39
 have h2:=h.alloc (.cells #[.int .i64 1,.string ByteArray.empty,.int .i64 1,.bool b,.int .i64 0,.string ByteArray.empty,.string ByteArray.empty,.slice none 0 0,.bool false,.slice none 0 0,.slice none 0 0,.slice none 0 0,.slice none 0 0] 39)
 have hne:w.heap.size≠hb:=by have:=h.lt;omega
 have hk:=(Keep.refl [hb] w).alloc (.cells #[.int .i64 1,.string ByteArray.empty,.int .i64 1,.bool b,.int .i64 0,.string ByteArray.empty,.string ByteArray.empty,.slice none 0 0,.bool false,.slice none 0 0,.slice none 0 0,.slice none 0 0,.slice none 0 0] 39)
 have c1:=Hd (xhas1_lit (w.alloc (.cells #[.int .i64 1,.string ByteArray.empty,.int .i64 1,.bool b,.int .i64 0,.string ByteArray.empty,.string ByteArray.empty,.slice none 0 0,.bool false,.slice none 0 0,.slice none 0 0,.slice none 0 0,.slice none 0 0] 39)) hb b h2)
 have x0:=hq.cell 0 rfl
 have x1:=hq.cell 1 rfl
 have x2:=hq.cell 2 rfl
 have x3:=hq.cell 3 rfl
 have x4:=hq.cell 4 rfl
 have x5:=hq.cell 5 rfl
 have x6:=hq.cell 6 rfl
 have x7:=hq.cell 7 rfl
 have x8:=hq.cell 8 rfl
 have x9:=hq.cell 9 rfl
 have x10:=hq.cell 10 rfl
 have x11:=hq.cell 11 rfl
 have x12:=hq.cell 12 rfl
 replace hq:=Hd hq
 replace hk:=Hd hk
 replace hne:=Hd hne
 clear h2 h
 go_enter Tryz.func52,Tryz.ntmps52
 go_wp2_with fail
 refine c1.out.mono ?_
 rintro e w2 ⟨rfl,hk2,hb2⟩
 clear x0 x1 x2 x3 x4 x5 x6 x7 x8 x9 x10 x11 x12
 have hq2:=hq.out.keep hk2 (by simpa using hne.out)
 have hkf:=Hd (hk.out.trans hk2 (fun x hx _=>hx))
 replace hb2:=Hd hb2
 have x0:=hq2.cell 0 rfl
 have x1:=hq2.cell 1 rfl
 have x2:=hq2.cell 2 rfl
 have x3:=hq2.cell 3 rfl
 have x4:=hq2.cell 4 rfl
 have x5:=hq2.cell 5 rfl
 have x6:=hq2.cell 6 rfl
 have x7:=hq2.cell 7 rfl
 have x8:=hq2.cell 8 rfl
 have x9:=hq2.cell 9 rfl
 have x10:=hq2.cell 10 rfl
 have x11:=hq2.cell 11 rfl
 have x12:=hq2.cell 12 rfl
 clear hk2 hq hk hne c1 hq2
 go_wp2
 go_loop [16] (fun v=>v=.int .i64 0) (fun _=>0)
 case atStart=>rfl
 case round=>
  subst hrel
  go_wp2
  go_end0
  exact⟨rfl,hkf.out,hb2.out⟩
theorem xhasagg_lit(w:World)(b:Bool):Calls Tryz.prog 26 #[.agg #[.int .i64 1,.string ByteArray.empty,.int .i64 1,.bool b,.int .i64 0,.string ByteArray.empty,.string ByteArray.empty,.slice none 0 0,.bool false,.slice none 0 0,.slice none 0 0,.slice none 0 0,.slice none 0 0]] w fun e w'=>e=.returned (.bool false)∧Below w.heap.size w w':=by
 have hq:=(Blk.new w #[.int .i64 1,.string ByteArray.empty,.int .i64 1,.bool b,.int .i64 0,.string ByteArray.empty,.string ByteArray.empty,.slice none 0 0,.bool false,.slice none 0 0,.slice none 0 0,.slice none 0 0,.slice none 0 0] 39).alloc (.cells #[.bool false] 4)
 have h2:=Blk.new (w.alloc (.cells #[.int .i64 1,.string ByteArray.empty,.int .i64 1,.bool b,.int .i64 0,.string ByteArray.empty,.string ByteArray.empty,.slice none 0 0,.bool false,.slice none 0 0,.slice none 0 0,.slice none 0 0,.slice none 0 0] 39)) #[.bool false] 4
 rw[World.size_alloc]at h2
 have hal:Below w.heap.size w ((w.alloc (.cells #[.int .i64 1,.string ByteArray.empty,.int .i64 1,.bool b,.int .i64 0,.string ByteArray.empty,.string ByteArray.empty,.slice none 0 0,.bool false,.slice none 0 0,.slice none 0 0,.slice none 0 0,.slice none 0 0] 39)).alloc (.cells #[.bool false] 4)):=((Below.refl _ _).alloc (Nat.le_refl _) _).alloc (by rw[World.size_alloc];omega) _
 have c1:=Hd (xwalk_lit _ _ b h2)
 have x0:=hq.cell 0 rfl
 have x1:=hq.cell 1 rfl
 have x2:=hq.cell 2 rfl
 have x3:=hq.cell 3 rfl
 have x4:=hq.cell 4 rfl
 have x5:=hq.cell 5 rfl
 have x6:=hq.cell 6 rfl
 have x7:=hq.cell 7 rfl
 have x8:=hq.cell 8 rfl
 have x9:=hq.cell 9 rfl
 have x10:=hq.cell 10 rfl
 have x11:=hq.cell 11 rfl
 have x12:=hq.cell 12 rfl
 replace hal:=Hd hal
 clear hq h2
 go_enter Tryz.func26,Tryz.ntmps26
 go_wp2_with fail
 refine c1.out.mono ?_
 rintro e w2 ⟨rfl,hk2,hb2⟩
 clear x0 x1 x2 x3 x4 x5 x6 x7 x8 x9 x10 x11 x12
 have z0:=hb2.cell 0 rfl
 have hB:=Hd (hal.out.trans (hk2.under w.heap.size hal.out.size (by simp)))
 clear hk2 hb2 hal c1
 go_wp2
 go_ret
 exact⟨rfl,hB.out⟩
theorem xcopied_lit(w:World)(b:Bool):Calls Tryz.prog 129 #[.agg #[.int .i64 1,.bool b,.int .i64 0,.string ByteArray.empty,.string ByteArray.empty,.slice none 0 0]] w fun e w'=>e=.returned (.agg #[.int .i64 1,.bool b,.int .i64 0,.string ByteArray.empty,.string ByteArray.empty,.slice none 0 0])∧Below w.heap.size w w':=by
 have hq1:=(Blk.new w #[.int .i64 1,.bool b,.int .i64 0,.string ByteArray.empty,.string ByteArray.empty,.slice none 0 0] 34).alloc (.cells #[.int .i64 0,.bool false,.int .i64 0,.string ByteArray.empty,.string ByteArray.empty,.slice none 0 0] 34)
 have hq2:=Blk.new (w.alloc (.cells #[.int .i64 1,.bool b,.int .i64 0,.string ByteArray.empty,.string ByteArray.empty,.slice none 0 0] 34)) #[.int .i64 0,.bool false,.int .i64 0,.string ByteArray.empty,.string ByteArray.empty,.slice none 0 0] 34
 rw[World.size_alloc]at hq2
 have hal:Below w.heap.size w ((w.alloc (.cells #[.int .i64 1,.bool b,.int .i64 0,.string ByteArray.empty,.string ByteArray.empty,.slice none 0 0] 34)).alloc (.cells #[.int .i64 0,.bool false,.int .i64 0,.string ByteArray.empty,.string ByteArray.empty,.slice none 0 0] 34)):=((Below.refl _ _).alloc (Nat.le_refl _) _).alloc (by rw[World.size_alloc];omega) _
 obtain⟨W,hW⟩:∃W,(w.alloc (.cells #[.int .i64 1,.bool b,.int .i64 0,.string ByteArray.empty,.string ByteArray.empty,.slice none 0 0] 34)).alloc (.cells #[.int .i64 0,.bool false,.int .i64 0,.string ByteArray.empty,.string ByteArray.empty,.slice none 0 0] 34)=W:=⟨_,rfl⟩
 rw[hW]at hq1 hq2 hal
 have hb5:=hal.setCell (p:=⟨w.heap.size,5,none⟩) (Nat.le_refl _) (.slice none 0 0)
 have hq3:=hq1.set 5 (.slice none 0 0)
 have hq4:=hq2.set_other ⟨w.heap.size,5,none⟩ (by simp) (.slice none 0 0)
 have y0:=hq1.cell 0 rfl
 have y1:=hq1.cell 1 rfl
 have y2:=hq1.cell 2 rfl
 have y3:=hq1.cell 3 rfl
 have y4:=hq1.cell 4 rfl
 have y5:=hq1.cell 5 rfl
 have f5:=hq1.free 5
 replace hq3:Hid (Blk (W.setCell ⟨w.heap.size,5,none⟩ (.slice none 0 0)) w.heap.size #[.int .i64 1,.bool b,.int .i64 0,.string ByteArray.empty,.string ByteArray.empty,.slice none 0 0] 34):=Hd hq3
 replace hq4:=Hd hq4
 replace hb5:=Hd hb5
 replace hW:=Hd hW
 clear hq1 hq2 hal
 go_enter Tryz.func129,Tryz.ntmps129
 go_upto_region 1 with fail
 rw[show(w.alloc (.cells #[.int .i64 1,.bool b,.int .i64 0,.string ByteArray.empty,.string ByteArray.empty,.slice none 0 0] 34)).alloc (.cells #[.int .i64 0,.bool false,.int .i64 0,.string ⟨#[]⟩,.string ⟨#[]⟩,.slice none 0 0] 34)=W from hW.out]
 go_upto_region 3 with fail
 clear y0 y1 y2 y3 y4 y5 f5
 generalize W.setCell ⟨w.heap.size,5,none⟩ (.slice none 0 0)=U at *
 have hq5:=hq3.out
 have hq6:=hq4.out
 have y0:=hq5.cell 0 rfl
 have y1:=hq5.cell 1 rfl
 have y2:=hq5.cell 2 rfl
 have y3:=hq5.cell 3 rfl
 have y4:=hq5.cell 4 rfl
 have y5:=hq5.cell 5 rfl
 have u0:=hq6.cell 0 rfl
 have u1:=hq6.cell 1 rfl
 have u2:=hq6.cell 2 rfl
 have u3:=hq6.cell 3 rfl
 have u4:=hq6.cell 4 rfl
 have u5:=hq6.cell 5 rfl
 have f1:=hq6.free
 clear hq5 hq6
 go_wp2
 go_loop [11] (fun v=>v=.int .i64 0) (fun _=>0)
 case atStart=>rfl
 case round=>
  subst hrel
  go_wp2
  have hfin:=Blk.set6 hq4.out (.int .i64 1) (.bool b) (.int .i64 0) (.string ByteArray.empty) (.string ByteArray.empty) (.slice none 0 0)
  have hbf:=Below.set6 hb5.out (Nat.le_succ _) (.int .i64 1) (.bool b) (.int .i64 0) (.string ByteArray.empty) (.string ByteArray.empty) (.slice none 0 0)
  refine bodyPost_ret (v:=.agg #[.int .i64 1,.bool b,.int .i64 0,.string ByteArray.empty,.string ByteArray.empty,.slice none 0 0]) (results_cell_row rfl _ _ (w.heap.size+1) 34 _ (0,0) _ rfl hfin.eq Tryz.underlying34 rfl infoV6) rfl ⟨rfl,hbf⟩
theorem xsingle_lit(w:World)(b:Bool)(xv:Value):Calls Tryz.prog 82 #[xv,.agg #[.int .i64 1,.string ByteArray.empty,.int .i64 1,.bool b,.int .i64 0,.string ByteArray.empty,.string ByteArray.empty,.slice none 0 0,.bool false,.slice none 0 0,.slice none 0 0,.slice none 0 0,.slice none 0 0]] w fun e w'=>e=.returned (.tuple #[.agg #[.int .i64 1,.bool b,.int .i64 0,.string ByteArray.empty,.string ByteArray.empty,.slice none 0 0],.int .i64 0,.bool true])∧Below w.heap.size w w':=by
 have hq1:=(Blk.new w #[.int .i64 1,.string ByteArray.empty,.int .i64 1,.bool b,.int .i64 0,.string ByteArray.empty,.string ByteArray.empty,.slice none 0 0,.bool false,.slice none 0 0,.slice none 0 0,.slice none 0 0,.slice none 0 0] 39).alloc (.cells #[.int .i64 0,.bool false,.int .i64 0,.string ByteArray.empty,.string ByteArray.empty,.slice none 0 0] 34)
 have hq2:=Blk.new (w.alloc (.cells #[.int .i64 1,.string ByteArray.empty,.int .i64 1,.bool b,.int .i64 0,.string ByteArray.empty,.string ByteArray.empty,.slice none 0 0,.bool false,.slice none 0 0,.slice none 0 0,.slice none 0 0,.slice none 0 0] 39)) #[.int .i64 0,.bool false,.int .i64 0,.string ByteArray.empty,.string ByteArray.empty,.slice none 0 0] 34
 rw[World.size_alloc]at hq2
 have hal:Below w.heap.size w ((w.alloc (.cells #[.int .i64 1,.string ByteArray.empty,.int .i64 1,.bool b,.int .i64 0,.string ByteArray.empty,.string ByteArray.empty,.slice none 0 0,.bool false,.slice none 0 0,.slice none 0 0,.slice none 0 0,.slice none 0 0] 39)).alloc (.cells #[.int .i64 0,.bool false,.int .i64 0,.string ByteArray.empty,.string ByteArray.empty,.slice none 0 0] 34)):=((Below.refl _ _).alloc (Nat.le_refl _) _).alloc (by rw[World.size_alloc];omega) _
 have cC:=Hd (xcopied_lit ((w.alloc (.cells #[.int .i64 1,.string ByteArray.empty,.int .i64 1,.bool b,.int .i64 0,.string ByteArray.empty,.string ByteArray.empty,.slice none 0 0,.bool false,.slice none 0 0,.slice none 0 0,.slice none 0 0,.slice none 0 0] 39)).alloc (.cells #[.int .i64 0,.bool false,.int .i64 0,.string ByteArray.empty,.string ByteArray.empty,.slice none 0 0] 34)) b)
 have x0:=hq1.cell 0 rfl
 have x1:=hq1.cell 1 rfl
 have x2:=hq1.cell 2 rfl
 have x3:=hq1.cell 3 rfl
 have x4:=hq1.cell 4 rfl
 have x5:=hq1.cell 5 rfl
 have x6:=hq1.cell 6 rfl
 have x7:=hq1.cell 7 rfl
 have x8:=hq1.cell 8 rfl
 have x9:=hq1.cell 9 rfl
 have x10:=hq1.cell 10 rfl
 have x11:=hq1.cell 11 rfl
 have x12:=hq1.cell 12 rfl
 replace hq2:=Hd hq2
 replace hal:=Hd hal
 clear hq1
 go_enter Tryz.func82,Tryz.ntmps82
 go_wp2_with fail
 refine cC.out.mono ?_
 rintro e w2 ⟨rfl,hb2⟩
 clear x0 x1 x2 x3 x4 x5 x6 x7 x8 x9 x10 x11 x12
 have hq3:Blk w2 (w.heap.size+1) #[.int .i64 0,.bool false,.int .i64 0,.string ByteArray.empty,.string ByteArray.empty,.slice none 0 0] 34:=(hb2.block _ hq2.out.lt).trans hq2.out
 have u0:=hq3.cell 0 rfl
 have u1:=hq3.cell 1 rfl
 have u2:=hq3.cell 2 rfl
 have u3:=hq3.cell 3 rfl
 have u4:=hq3.cell 4 rfl
 have u5:=hq3.cell 5 rfl
 have f1:=hq3.free
 have hB:=Hd (hal.out.trans (hb2.mono hal.out.size))
 replace hq3:=Hd hq3
 clear hal hb2 cC hq2
 go_wp2
 have hfin:=Blk.set6 hq3.out (.int .i64 1) (.bool b) (.int .i64 0) (.string ByteArray.empty) (.string ByteArray.empty) (.slice none 0 0)
 have hbf:=Below.set6 hB.out (Nat.le_succ _) (.int .i64 1) (.bool b) (.int .i64 0) (.string ByteArray.empty) (.string ByteArray.empty) (.slice none 0 0)
 refine bodyPost_ret (v:=.tuple #[.agg #[.int .i64 1,.bool b,.int .i64 0,.string ByteArray.empty,.string ByteArray.empty,.slice none 0 0],.int .i64 0,.bool true]) (res3 rfl _ _ (w.heap.size+1) 34 _ (0,0) _ _ _ rfl rfl rfl hfin.eq Tryz.underlying34 rfl infoV6) rfl ⟨rfl,hbf⟩
theorem xvalue_lit(w:World)(b:Bool)(xv:Value):Calls Tryz.prog 69 #[xv,.agg #[.int .i64 1,.string ByteArray.empty,.int .i64 1,.bool b,.int .i64 0,.string ByteArray.empty,.string ByteArray.empty,.slice none 0 0,.bool false,.slice none 0 0,.slice none 0 0,.slice none 0 0,.slice none 0 0]] w fun e w'=>e=.returned (.tuple #[.agg #[.int .i64 1,.bool b,.int .i64 0,.string ByteArray.empty,.string ByteArray.empty,.slice none 0 0],.int .i64 0])∧Below w.heap.size w w':=by
 have hq1:=(Blk.new w #[.int .i64 1,.string ByteArray.empty,.int .i64 1,.bool b,.int .i64 0,.string ByteArray.empty,.string ByteArray.empty,.slice none 0 0,.bool false,.slice none 0 0,.slice none 0 0,.slice none 0 0,.slice none 0 0] 39).alloc (.cells #[.int .i64 0,.bool false,.int .i64 0,.string ByteArray.empty,.string ByteArray.empty,.slice none 0 0] 34)
 have hq2:=Blk.new (w.alloc (.cells #[.int .i64 1,.string ByteArray.empty,.int .i64 1,.bool b,.int .i64 0,.string ByteArray.empty,.string ByteArray.empty,.slice none 0 0,.bool false,.slice none 0 0,.slice none 0 0,.slice none 0 0,.slice none 0 0] 39)) #[.int .i64 0,.bool false,.int .i64 0,.string ByteArray.empty,.string ByteArray.empty,.slice none 0 0] 34
 rw[World.size_alloc]at hq2
 have hal:Below w.heap.size w ((w.alloc (.cells #[.int .i64 1,.string ByteArray.empty,.int .i64 1,.bool b,.int .i64 0,.string ByteArray.empty,.string ByteArray.empty,.slice none 0 0,.bool false,.slice none 0 0,.slice none 0 0,.slice none 0 0,.slice none 0 0] 39)).alloc (.cells #[.int .i64 0,.bool false,.int .i64 0,.string ByteArray.empty,.string ByteArray.empty,.slice none 0 0] 34)):=((Below.refl _ _).alloc (Nat.le_refl _) _).alloc (by rw[World.size_alloc];omega) _
 have cC:=Hd (xsingle_lit ((w.alloc (.cells #[.int .i64 1,.string ByteArray.empty,.int .i64 1,.bool b,.int .i64 0,.string ByteArray.empty,.string ByteArray.empty,.slice none 0 0,.bool false,.slice none 0 0,.slice none 0 0,.slice none 0 0,.slice none 0 0] 39)).alloc (.cells #[.int .i64 0,.bool false,.int .i64 0,.string ByteArray.empty,.string ByteArray.empty,.slice none 0 0] 34)) b xv)
 have x0:=hq1.cell 0 rfl
 have x1:=hq1.cell 1 rfl
 have x2:=hq1.cell 2 rfl
 have x3:=hq1.cell 3 rfl
 have x4:=hq1.cell 4 rfl
 have x5:=hq1.cell 5 rfl
 have x6:=hq1.cell 6 rfl
 have x7:=hq1.cell 7 rfl
 have x8:=hq1.cell 8 rfl
 have x9:=hq1.cell 9 rfl
 have x10:=hq1.cell 10 rfl
 have x11:=hq1.cell 11 rfl
 have x12:=hq1.cell 12 rfl
 replace hq2:=Hd hq2
 replace hal:=Hd hal
 clear hq1
 go_enter Tryz.func69,Tryz.ntmps69
 go_wp2_with fail
 refine cC.out.mono ?_
 rintro e w2 ⟨rfl,hb2⟩
 clear x0 x1 x2 x3 x4 x5 x6 x7 x8 x9 x10 x11 x12
 have hq3:Blk (w2.alloc (.cells #[.int .i64 1,.bool b,.int .i64 0,.string ByteArray.empty,.string ByteArray.empty,.slice none 0 0] 34)) (w.heap.size+1) #[.int .i64 0,.bool false,.int .i64 0,.string ByteArray.empty,.string ByteArray.empty,.slice none 0 0] 34:=Blk.alloc ((hb2.block _ hq2.out.lt).trans hq2.out) _
 have hq4:=Blk.new w2 #[.int .i64 1,.bool b,.int .i64 0,.string ByteArray.empty,.string ByteArray.empty,.slice none 0 0] 34
 have u0:=hq3.cell 0 rfl
 have u1:=hq3.cell 1 rfl
 have u2:=hq3.cell 2 rfl
 have u3:=hq3.cell 3 rfl
 have u4:=hq3.cell 4 rfl
 have u5:=hq3.cell 5 rfl
 have y0:=hq4.cell 0 rfl
 have y1:=hq4.cell 1 rfl
 have y2:=hq4.cell 2 rfl
 have y3:=hq4.cell 3 rfl
 have y4:=hq4.cell 4 rfl
 have y5:=hq4.cell 5 rfl
 have f1:=hq3.free
 have hB0:=hal.out.trans (hb2.mono hal.out.size)
 have hB:=Hd (hB0.alloc hB0.size (.cells #[.int .i64 1,.bool b,.int .i64 0,.string ByteArray.empty,.string ByteArray.empty,.slice none 0 0] 34))
 replace hq3:=Hd hq3
 clear hal hb2 cC hq2 hq4 hB0
 go_wp2
 have hfin:=Blk.set6 hq3.out (.int .i64 1) (.bool b) (.int .i64 0) (.string ByteArray.empty) (.string ByteArray.empty) (.slice none 0 0)
 have hbf:=Below.set6 hB.out (Nat.le_succ _) (.int .i64 1) (.bool b) (.int .i64 0) (.string ByteArray.empty) (.string ByteArray.empty) (.slice none 0 0)
 refine bodyPost_ret (v:=.tuple #[.agg #[.int .i64 1,.bool b,.int .i64 0,.string ByteArray.empty,.string ByteArray.empty,.slice none 0 0],.int .i64 0]) (res2 rfl _ _ (w.heap.size+1) 34 _ (0,0) _ _ rfl rfl hfin.eq Tryz.underlying34 rfl infoV6) rfl ⟨rfl,hbf⟩
theorem xeval_lit(w:World)(hE:Env w)(lang:Int)(b:Bool)(tp:TypeId)(pl:Value):Calls Tryz.prog 54 #[.int .i64 lang,.agg #[.int .i64 1,.string ByteArray.empty,.int .i64 1,.bool b,.int .i64 0,.string ByteArray.empty,.string ByteArray.empty,.slice none 0 0,.bool false,.slice none 0 0,.slice none 0 0,.slice none 0 0,.slice none 0 0],.iface tp pl] w fun e w'=>e=.returned (.tuple #[.agg #[.int .i64 1,.bool b,.int .i64 0,.string ByteArray.empty,.string ByteArray.empty,.slice none 0 0],.int .i64 0])∧Below w.heap.size w w':=by
 obtain⟨l2,hl2⟩:∃l2:Int,(if lang=1 then 1 else 0)=l2:=⟨_,rfl⟩
 have hq1:=(Blk.new w #[.int .i64 1,.string ByteArray.empty,.int .i64 1,.bool b,.int .i64 0,.string ByteArray.empty,.string ByteArray.empty,.slice none 0 0,.bool false,.slice none 0 0,.slice none 0 0,.slice none 0 0,.slice none 0 0] 39).alloc (.cells #[.int .i64 0,.bool false,.int .i64 0,.string ByteArray.empty,.string ByteArray.empty,.slice none 0 0] 34)
 have hq2:=Blk.new (w.alloc (.cells #[.int .i64 1,.string ByteArray.empty,.int .i64 1,.bool b,.int .i64 0,.string ByteArray.empty,.string ByteArray.empty,.slice none 0 0,.bool false,.slice none 0 0,.slice none 0 0,.slice none 0 0,.slice none 0 0] 39)) #[.int .i64 0,.bool false,.int .i64 0,.string ByteArray.empty,.string ByteArray.empty,.slice none 0 0] 34
 rw[World.size_alloc]at hq2
 have hal:Below w.heap.size w ((w.alloc (.cells #[.int .i64 1,.string ByteArray.empty,.int .i64 1,.bool b,.int .i64 0,.string ByteArray.empty,.string ByteArray.empty,.slice none 0 0,.bool false,.slice none 0 0,.slice none 0 0,.slice none 0 0,.slice none 0 0] 39)).alloc (.cells #[.int .i64 0,.bool false,.int .i64 0,.string ByteArray.empty,.string ByteArray.empty,.slice none 0 0] 34)):=((Below.refl _ _).alloc (Nat.le_refl _) _).alloc (by rw[World.size_alloc];omega) _
 have cC:=Hd (xcheck_lit _ (hE.below hal) lang b)
 have hn:=fun W=>not_nil W tp pl
 have x0:=hq1.cell 0 rfl
 have x1:=hq1.cell 1 rfl
 have x2:=hq1.cell 2 rfl
 have x3:=hq1.cell 3 rfl
 have x4:=hq1.cell 4 rfl
 have x5:=hq1.cell 5 rfl
 have x6:=hq1.cell 6 rfl
 have x7:=hq1.cell 7 rfl
 have x8:=hq1.cell 8 rfl
 have x9:=hq1.cell 9 rfl
 have x10:=hq1.cell 10 rfl
 have x11:=hq1.cell 11 rfl
 have x12:=hq1.cell 12 rfl
 replace hq1:=Hd hq1
 replace hq2:=Hd hq2
 replace hal:=Hd hal
 replace hl2:=Hd hl2
 go_enter Tryz.func54,Tryz.ntmps54
 go_wp2_with fail
 refine cC.out.mono ?_
 rintro e w2 ⟨rfl,hb2⟩
 clear x0 x1 x2 x3 x4 x5 x6 x7 x8 x9 x10 x11 x12
 have hq3:Blk w2 w.heap.size #[.int .i64 1,.string ByteArray.empty,.int .i64 1,.bool b,.int .i64 0,.string ByteArray.empty,.string ByteArray.empty,.slice none 0 0,.bool false,.slice none 0 0,.slice none 0 0,.slice none 0 0,.slice none 0 0] 39:=(hb2.block _ hq1.out.lt).trans hq1.out
 have cH:=Hd (xhasagg_lit w2 b)
 have hB:=Hd (hal.out.trans (hb2.mono hal.out.size))
 have x0:=hq3.cell 0 rfl
 have x1:=hq3.cell 1 rfl
 have x2:=hq3.cell 2 rfl
 have x3:=hq3.cell 3 rfl
 have x4:=hq3.cell 4 rfl
 have x5:=hq3.cell 5 rfl
 have x6:=hq3.cell 6 rfl
 have x7:=hq3.cell 7 rfl
 have x8:=hq3.cell 8 rfl
 have x9:=hq3.cell 9 rfl
 have x10:=hq3.cell 10 rfl
 have x11:=hq3.cell 11 rfl
 have x12:=hq3.cell 12 rfl
 replace hq3:=Hd hq3
 clear cC
 go_wp2_with fail
 refine cH.out.mono ?_
 rintro e w3 ⟨rfl,hb3⟩
 clear x0 x1 x2 x3 x4 x5 x6 x7 x8 x9 x10 x11 x12
 have hb23:=hb2.trans (hb3.mono hb2.size)
 have hq4:Blk w3 w.heap.size #[.int .i64 1,.string ByteArray.empty,.int .i64 1,.bool b,.int .i64 0,.string ByteArray.empty,.string ByteArray.empty,.slice none 0 0,.bool false,.slice none 0 0,.slice none 0 0,.slice none 0 0,.slice none 0 0] 39:=(hb23.block _ hq1.out.lt).trans hq1.out
 have hq5:Blk w3 (w.heap.size+1) #[.int .i64 0,.bool false,.int .i64 0,.string ByteArray.empty,.string ByteArray.empty,.slice none 0 0] 34:=(hb23.block _ hq2.out.lt).trans hq2.out
 have hB3:=hB.out.trans (hb3.mono hB.out.size)
 have cL:=xlang_any w3 lang
 rw[hl2.out]at cL
 replace cL:=Hd cL
 replace hq4:=Hd hq4
 replace hq5:=Hd hq5
 replace hB3:=Hd hB3
 clear hb2 hb3 hb23 cH hq1 hq2 hq3 hal hB
 go_wp2_with fail
 refine cL.out.mono ?_
 rintro e w4 ⟨rfl,rfl⟩
 have hq6:=hq4.out.alloc (.cells #[.int .i64 l2,.iface tp pl] 119)
 have cV:=Hd (fun xv=>xvalue_lit (w4.alloc (.cells #[.int .i64 l2,.iface tp pl] 119)) b xv)
 have x0:=hq6.cell 0 rfl
 have x1:=hq6.cell 1 rfl
 have x2:=hq6.cell 2 rfl
 have x3:=hq6.cell 3 rfl
 have x4:=hq6.cell 4 rfl
 have x5:=hq6.cell 5 rfl
 have x6:=hq6.cell 6 rfl
 have x7:=hq6.cell 7 rfl
 have x8:=hq6.cell 8 rfl
 have x9:=hq6.cell 9 rfl
 have x10:=hq6.cell 10 rfl
 have x11:=hq6.cell 11 rfl
 have x12:=hq6.cell 12 rfl
 clear cL hq6
 go_wp2_with fail
 refine(cV.out _).mono ?_
 rintro e w5 ⟨rfl,hb5⟩
 clear x0 x1 x2 x3 x4 x5 x6 x7 x8 x9 x10 x11 x12
 have hba:Below w4.heap.size w4 (w4.alloc (.cells #[.int .i64 l2,.iface tp pl] 119)):=(Below.refl _ _).alloc (Nat.le_refl _) _
 have hb45:=hba.trans (hb5.mono hba.size)
 have hq7:Blk (w5.alloc (.cells #[.int .i64 1,.bool b,.int .i64 0,.string ByteArray.empty,.string ByteArray.empty,.slice none 0 0] 34)) (w.heap.size+1) #[.int .i64 0,.bool false,.int .i64 0,.string ByteArray.empty,.string ByteArray.empty,.slice none 0 0] 34:=Blk.alloc ((hb45.block _ hq5.out.lt).trans hq5.out) _
 have hq8:=Blk.new w5 #[.int .i64 1,.bool b,.int .i64 0,.string ByteArray.empty,.string ByteArray.empty,.slice none 0 0] 34
 have u0:=hq7.cell 0 rfl
 have u1:=hq7.cell 1 rfl
 have u2:=hq7.cell 2 rfl
 have u3:=hq7.cell 3 rfl
 have u4:=hq7.cell 4 rfl
 have u5:=hq7.cell 5 rfl
 have y0:=hq8.cell 0 rfl
 have y1:=hq8.cell 1 rfl
 have y2:=hq8.cell 2 rfl
 have y3:=hq8.cell 3 rfl
 have y4:=hq8.cell 4 rfl
 have y5:=hq8.cell 5 rfl
 have f1:=hq7.free
 have hB5:=hB3.out.trans (hb45.mono hB3.out.size)
 have hBf:=Hd (hB5.alloc hB5.size (.cells #[.int .i64 1,.bool b,.int .i64 0,.string ByteArray.empty,.string ByteArray.empty,.slice none 0 0] 34))
 replace hq7:=Hd hq7
 clear hba hb45 hb5 hB5 hB3 hq8 hq5 hq4 cV
 go_wp2
 have hfin:=Blk.set6 hq7.out (.int .i64 1) (.bool b) (.int .i64 0) (.string ByteArray.empty) (.string ByteArray.empty) (.slice none 0 0)
 have hbf:=Below.set6 hBf.out (Nat.le_succ _) (.int .i64 1) (.bool b) (.int .i64 0) (.string ByteArray.empty) (.string ByteArray.empty) (.slice none 0 0)
 refine bodyPost_ret (v:=.tuple #[.agg #[.int .i64 1,.bool b,.int .i64 0,.string ByteArray.empty,.string ByteArray.empty,.slice none 0 0],.int .i64 0]) (res2 rfl _ _ (w.heap.size+1) 34 _ (0,0) _ _ rfl rfl hfin.eq Tryz.underlying34 rfl infoV6) rfl ⟨rfl,hbf⟩
theorem xtruth_b(w:World)(b:Bool):Calls Tryz.prog 70 #[.bool b] w fun e w'=>e=.returned (.int .i64 (tvB b))∧w'=w:=by
 cases b
 all_goals
  go_enter Tryz.func70,Tryz.ntmps70
  go_wp2
  go_ret
  exact⟨rfl,rfl⟩
theorem xof_lit(w:World)(hE:Env w)(l2:Int)(b:Bool):Calls Tryz.prog 55 #[.int .i64 l2,.agg #[.int .i64 1,.bool b,.int .i64 0,.string ByteArray.empty,.string ByteArray.empty,.slice none 0 0]] w fun e w'=>e=.returned (.tuple #[.int .i64 (tvB b),.int .i64 0])∧Below w.heap.size w w':=by
 have hq:=Blk.new w #[.int .i64 1,.bool b,.int .i64 0,.string ByteArray.empty,.string ByteArray.empty,.slice none 0 0] 34
 have hal:Below w.heap.size w (w.alloc (.cells #[.int .i64 1,.bool b,.int .i64 0,.string ByteArray.empty,.string ByteArray.empty,.slice none 0 0] 34)):=(Below.refl _ _).alloc (Nat.le_refl _) _
 have cV:=Hd (vcheck_lit _ (hE.below hal) b)
 have y0:=hq.cell 0 rfl
 have y1:=hq.cell 1 rfl
 have y2:=hq.cell 2 rfl
 have y3:=hq.cell 3 rfl
 have y4:=hq.cell 4 rfl
 have y5:=hq.cell 5 rfl
 replace hq:=Hd hq
 replace hal:=Hd hal
 go_enter Tryz.func55,Tryz.ntmps55
 go_wp2_with fail
 refine cV.out.mono ?_
 rintro e w2 ⟨rfl,hb2⟩
 have hq2:Blk w2 w.heap.size #[.int .i64 1,.bool b,.int .i64 0,.string ByteArray.empty,.string ByteArray.empty,.slice none 0 0] 34:=(hb2.block _ hq.out.lt).trans hq.out
 clear y0 y1 y2 y3 y4 y5
 have y0:=hq2.cell 0 rfl
 have y1:=hq2.cell 1 rfl
 have y2:=hq2.cell 2 rfl
 have y3:=hq2.cell 3 rfl
 have y4:=hq2.cell 4 rfl
 have y5:=hq2.cell 5 rfl
 have hB:=Hd (hal.out.trans (hb2.mono hal.out.size))
 have cT:=Hd (xtruth_b w2 b)
 clear hq hq2 hal hb2 cV
 go_wp2_with fail
 refine cT.out.mono ?_
 rintro e w3 ⟨rfl,rfl⟩
 clear cT
 go_wp2
 go_ret2
 exact⟨rfl,hB.out⟩
theorem xtruth_lit(w:World)(hE:Env w)(lang:Int)(b:Bool)(tp:TypeId)(pl:Value):Calls Tryz.prog 28 #[.int .i64 lang,.agg #[.int .i64 1,.string ByteArray.empty,.int .i64 1,.bool b,.int .i64 0,.string ByteArray.empty,.string ByteArray.empty,.slice none 0 0,.bool false,.slice none 0 0,.slice none 0 0,.slice none 0 0,.slice none 0 0],.iface tp pl] w fun e w'=>e=.returned (.tuple #[.int .i64 (tvB b),.int .i64 0])∧Below w.heap.size w w':=by
 obtain⟨l2,hl2⟩:∃l2:Int,(if lang=1 then 1 else 0)=l2:=⟨_,rfl⟩
 have hq1:=Blk.new w #[.int .i64 1,.string ByteArray.empty,.int .i64 1,.bool b,.int .i64 0,.string ByteArray.empty,.string ByteArray.empty,.slice none 0 0,.bool false,.slice none 0 0,.slice none 0 0,.slice none 0 0,.slice none 0 0] 39
 have hal:Below w.heap.size w (w.alloc (.cells #[.int .i64 1,.string ByteArray.empty,.int .i64 1,.bool b,.int .i64 0,.string ByteArray.empty,.string ByteArray.empty,.slice none 0 0,.bool false,.slice none 0 0,.slice none 0 0,.slice none 0 0,.slice none 0 0] 39)):=(Below.refl _ _).alloc (Nat.le_refl _) _
 have cC:=Hd (xeval_lit _ (hE.below hal) lang b tp pl)
 have hEh:=Hd (fun V (h:Below w.heap.size w V)=>hE.below h)
 have hl3:=Hd hl2
 replace hl2:=Hd hl2
 have x0:=hq1.cell 0 rfl
 have x1:=hq1.cell 1 rfl
 have x2:=hq1.cell 2 rfl
 have x3:=hq1.cell 3 rfl
 have x4:=hq1.cell 4 rfl
 have x5:=hq1.cell 5 rfl
 have x6:=hq1.cell 6 rfl
 have x7:=hq1.cell 7 rfl
 have x8:=hq1.cell 8 rfl
 have x9:=hq1.cell 9 rfl
 have x10:=hq1.cell 10 rfl
 have x11:=hq1.cell 11 rfl
 have x12:=hq1.cell 12 rfl
 replace hal:=Hd hal
 clear hq1
 go_enter Tryz.func28,Tryz.ntmps28
 go_wp2_with fail
 refine cC.out.mono ?_
 rintro e w2 ⟨rfl,hb2⟩
 clear x0 x1 x2 x3 x4 x5 x6 x7 x8 x9 x10 x11 x12
 have hB0:=hal.out.trans (hb2.mono hal.out.size)
 have hB:=Hd (hB0.alloc hB0.size (.cells #[.int .i64 1,.bool b,.int .i64 0,.string ByteArray.empty,.string ByteArray.empty,.slice none 0 0] 34))
 have hq:=Blk.new w2 #[.int .i64 1,.bool b,.int .i64 0,.string ByteArray.empty,.string ByteArray.empty,.slice none 0 0] 34
 clear hB0 hb2 hal cC
 go_upto_region 6 with fail
 obtain⟨p,hp⟩:∃p,w2.heap.size=p:=⟨_,rfl⟩
 rw[hp]at hq
 try rw[hp]
 generalize w2.alloc (.cells #[.int .i64 1,.bool b,.int .i64 0,.string ByteArray.empty,.string ByteArray.empty,.slice none 0 0] 34)=w3 at *
 have hd:Below w3.heap.size w3 w3.drew:=below_drewN (Below.refl _ _) 1
 have hS0:Blk w3.drew p #[.int .i64 1,.bool b,.int .i64 0,.string ByteArray.empty,.string ByteArray.empty,.slice none 0 0] 34:=hq
 have hB3:=Hd (hB.out.trans (hd.mono hB.out.size))
 replace hp:=Hd hp
 clear hd hq hB
 refine wp_region_held_drew (S:=fun V=>Blk V p #[.int .i64 1,.bool b,.int .i64 0,.string ByteArray.empty,.string ByteArray.empty,.slice none 0 0] 34) (by kernel_rfl) hS0 (fun hS=>?_)
 generalize w3.drew=V0 at *
 have cL:=xlang_any V0 lang
 rw[hl2.out]at cL
 refine tkS [0,2] ?_
 iterate 2
  refine tkC ?_ rfl (fun w' hS=>?_) hS ?_
  rotate_left
  ·
   have y0:=hS.cell 0 rfl;have y1:=hS.cell 1 rfl;have y2:=hS.cell 2 rfl;have y3:=hS.cell 3 rfl;have y4:=hS.cell 4 rfl;have y5:=hS.cell 5 rfl
   go_simp
   try with_reducible rfl
 refine rdH 1 rfl (fun K hK=>?_)
 clear hS
 go_simp
 refine(cL).mono ?_
 rintro e w4 ⟨rfl,rfl⟩
 go_wp2_with fail
 refine hKo hK (hS0) (fun hS=>?_)
 clear hK K
 refine rdH 3 rfl (fun K hK=>?_)
 clear hS
 go_simp
 refine(xof_lit w4 (hEh.out _ hB3.out) l2 b).mono ?_
 rintro e w5 ⟨rfl,hb5⟩
 go_wp2_with fail
 refine hKo hK ((hb5.block _ hS0.lt).trans hS0) (fun hS=>?_)
 clear hK K
 have hBf:=Hd (hB3.out.trans (hb5.mono hB3.out.size))
 have cL5:=xlang_any w5 lang
 rw[hl2.out]at cL5
 replace cL5:=Hd cL5
 clear hb5 cL hS0 hB3
 refine tkS [4,5,6,7,8] ?_
 iterate 5
  refine tkC ?_ rfl (fun w' hS=>?_) hS ?_
  rotate_left
  ·
   skip
   go_simp
   try with_reducible rfl
 refine wpAnyH_done (by kernel_rfl) ?_ _
 clear hS
 go_wp2_with fail
 refine cL5.out.mono ?_
 rintro e w6 ⟨rfl,rfl⟩
 clear cL5
 have h01:l2=0∨l2=1:=by
  rw[←hl3.out]
  by_cases h:lang=1
  ·exact .inr (by rw[if_pos h])
  ·exact .inl (by rw[if_neg h])
 clear hl3 hl2
 rcases h01 with rfl|rfl
 ·cases b
  all_goals
   go_wp2
   go_ret2
   exact⟨rfl,hBf.out⟩
 ·cases b
  all_goals
   go_wp2
   go_ret2
   exact⟨rfl,hBf.out⟩
end Go.Proofs.YtmpldjbdhbapbaaGreatDoor.tab
