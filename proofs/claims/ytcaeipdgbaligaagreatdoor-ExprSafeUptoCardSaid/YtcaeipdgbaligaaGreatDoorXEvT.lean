/- What is not made of its arguments' values alone: truth values put together, IS NULL; and comparisons, which are not of these. -/
import Derived.Test.YtcaeipdgbaligaaGreatDoorXEvS
set_option linter.unusedSimpArgs false
set_option linter.unusedVariables false
set_option maxHeartbeats 4000000
namespace Go.Proofs.YtcaeipdgbaligaaGreatDoor.ex
open Go.ChangeShapes Go.WideShapes Go.ChangeAt Go.RowKit kit dec val tab logic
open hyp (RowA TextsA textsV textsV_length news_one own_row)
set_option maxRecDepth 100000
theorem sing_logic(op:Int)(hop:op=5∨op=6∨op=7∨op=8)(tx:ByteArray)(kk:Int)(bb:Bool)(nn:Int)(t2 u2:ByteArray)(a1:Option Addr)(a2 a3:Nat)(f:Bool)(aa:Option Addr)(argn ca:Nat)(ap:Option Addr)(plan cp:Nat)(am:Option Addr)(mt cm:Nat)(ag:Option Addr)(gp cg:Nat)(w:World)(eb:Nat)(cX:∀W,Below w.heap.size w W→Calls Tryz.prog 56 #[.pointer (some ⟨eb,0,none⟩),.agg #[.int .i64 op,.string tx,.int .i64 kk,.bool bb,.int .i64 nn,.string t2,.string u2,.slice a1 a2 a3,.bool f,.slice aa argn ca,.slice ap plan cp,.slice am mt cm,.slice ag gp cg]] W (EvP true W)):
 Calls Tryz.prog 36 #[.pointer (some ⟨eb,0,none⟩),.agg #[.int .i64 op,.string tx,.int .i64 kk,.bool bb,.int .i64 nn,.string t2,.string u2,.slice a1 a2 a3,.bool f,.slice aa argn ca,.slice ap plan cp,.slice am mt cm,.slice ag gp cg]] w (SgP true w):=by
 rcases hop with rfl|rfl|rfl|rfl
 ·have hq0:=(Blk.new w #[.int .i64 5,.string tx,.int .i64 kk,.bool bb,.int .i64 nn,.string t2,.string u2,.slice a1 a2 a3,.bool f,.slice aa argn ca,.slice ap plan cp,.slice am mt cm,.slice ag gp cg] 43).alloc (.cells #[.int .i64 0,.bool false,.int .i64 0,.string ⟨#[]⟩,.string ⟨#[]⟩,.slice none 0 0] 38)
  have hq1:=Blk.new (w.alloc (.cells #[.int .i64 5,.string tx,.int .i64 kk,.bool bb,.int .i64 nn,.string t2,.string u2,.slice a1 a2 a3,.bool f,.slice aa argn ca,.slice ap plan cp,.slice am mt cm,.slice ag gp cg] 43)) #[.int .i64 0,.bool false,.int .i64 0,.string ⟨#[]⟩,.string ⟨#[]⟩,.slice none 0 0] 38
  rw[World.size_alloc]at hq1
  have hal:Below w.heap.size w ((w.alloc (.cells #[.int .i64 5,.string tx,.int .i64 kk,.bool bb,.int .i64 nn,.string t2,.string u2,.slice a1 a2 a3,.bool f,.slice aa argn ca,.slice ap plan cp,.slice am mt cm,.slice ag gp cg] 43)).alloc (.cells #[.int .i64 0,.bool false,.int .i64 0,.string ⟨#[]⟩,.string ⟨#[]⟩,.slice none 0 0] 38)):=((Below.refl _ _).alloc (Nat.le_refl _) _).alloc (by rw[World.size_alloc];omega) _
  have hsz:((w.alloc (.cells #[.int .i64 5,.string tx,.int .i64 kk,.bool bb,.int .i64 nn,.string t2,.string u2,.slice a1 a2 a3,.bool f,.slice aa argn ca,.slice ap plan cp,.slice am mt cm,.slice ag gp cg] 43)).alloc (.cells #[.int .i64 0,.bool false,.int .i64 0,.string ⟨#[]⟩,.string ⟨#[]⟩,.slice none 0 0] 38)).heap.size=w.heap.size+2:=by simp only[World.size_alloc]
  have cC:=Hd (cX _ hal)
  have t0:=hq0.cell 0 rfl
  have t1:=hq0.cell 1 rfl
  have t2a:=hq0.cell 2 rfl
  have t3:=hq0.cell 3 rfl
  have t4:=hq0.cell 4 rfl
  have t5:=hq0.cell 5 rfl
  have t6:=hq0.cell 6 rfl
  have t7:=hq0.cell 7 rfl
  have t8:=hq0.cell 8 rfl
  have t9:=hq0.cell 9 rfl
  have t10:=hq0.cell 10 rfl
  have t11:=hq0.cell 11 rfl
  have t12:=hq0.cell 12 rfl
  replace hq0:=Hd hq0
  replace hq1:=Hd hq1
  replace hal:=Hd hal
  replace hsz:=Hd hsz
  clear cX
  go_enter Tryz.func36,Tryz.ntmps36
  go_wp2_with fail
  refine cC.out.mono ?_
  rintro e w3 ⟨k,b,n,t,x,ao,cap,l,rfl,hb3,hl3,hok3,hm3,hk3⟩
  unfold agg6
  rw[hsz.out]at hl3
  have hq13:Blk w3 (w.heap.size+1) #[.int .i64 0,.bool false,.int .i64 0,.string ⟨#[]⟩,.string ⟨#[]⟩,.slice none 0 0] 38:=(hb3.block _ hq1.out.lt).trans hq1.out
  have hB3:=hal.out.trans (hb3.mono hal.out.size)
  clear t0 t1 t2a t3 t4 t5 t6 t7 t8 t9 t10 t11 t12
  have v0:=hq13.cell 0 rfl
  have v1:=hq13.cell 1 rfl
  have v2:=hq13.cell 2 rfl
  have v3:=hq13.cell 3 rfl
  have v4:=hq13.cell 4 rfl
  have v5:=hq13.cell 5 rfl
  have f1:=hq13.free
  have hfin0:Hid (Blk ((((((w3.setCell ⟨w.heap.size+1,0,none⟩ (.int .i64 k)).setCell ⟨w.heap.size+1,1,none⟩ (.bool b)).setCell ⟨w.heap.size+1,2,none⟩ (.int .i64 n)).setCell ⟨w.heap.size+1,3,none⟩ (.string t)).setCell ⟨w.heap.size+1,4,none⟩ (.string x)).setCell ⟨w.heap.size+1,5,none⟩ (.slice ao l.length cap)) (w.heap.size+1) #[.int .i64 k,.bool b,.int .i64 n,.string t,.string x,.slice ao l.length cap] 38):=Hd (Blk.set6 hq13 (.int .i64 k) (.bool b) (.int .i64 n) (.string t) (.string x) (.slice ao l.length cap))
  have hbf0:Hid (Below w.heap.size w ((((((w3.setCell ⟨w.heap.size+1,0,none⟩ (.int .i64 k)).setCell ⟨w.heap.size+1,1,none⟩ (.bool b)).setCell ⟨w.heap.size+1,2,none⟩ (.int .i64 n)).setCell ⟨w.heap.size+1,3,none⟩ (.string t)).setCell ⟨w.heap.size+1,4,none⟩ (.string x)).setCell ⟨w.heap.size+1,5,none⟩ (.slice ao l.length cap))):=Hd (Below.set6 hB3 (b:=w.heap.size+1) (Nat.le_succ _) (.int .i64 k) (.bool b) (.int .i64 n) (.string t) (.string x) (.slice ao l.length cap))
  have hlf0:Hid (LF ((((((w3.setCell ⟨w.heap.size+1,0,none⟩ (.int .i64 k)).setCell ⟨w.heap.size+1,1,none⟩ (.bool b)).setCell ⟨w.heap.size+1,2,none⟩ (.int .i64 n)).setCell ⟨w.heap.size+1,3,none⟩ (.string t)).setCell ⟨w.heap.size+1,4,none⟩ (.string x)).setCell ⟨w.heap.size+1,5,none⟩ (.slice ao l.length cap)) 1048576 (Fr (w.heap.size+2) w3) (.slice ao l.length cap) l):=Hd (hl3.set6 (w.heap.size+1) (fun h=>by have:=h.1;omega) (.int .i64 k) (.bool b) (.int .i64 n) (.string t) (.string x) (.slice ao l.length cap))
  have hsz0:Hid (((((((w3.setCell ⟨w.heap.size+1,0,none⟩ (.int .i64 k)).setCell ⟨w.heap.size+1,1,none⟩ (.bool b)).setCell ⟨w.heap.size+1,2,none⟩ (.int .i64 n)).setCell ⟨w.heap.size+1,3,none⟩ (.string t)).setCell ⟨w.heap.size+1,4,none⟩ (.string x)).setCell ⟨w.heap.size+1,5,none⟩ (.slice ao l.length cap)).heap.size=w3.heap.size):=Hd (by simp only[World.setCell,Array.size_modify])
  replace hok3:=Hd hok3
  replace hm3:=Hd hm3
  replace hk3:=Hd hk3
  clear cC hb3 hq1 hq0 hl3 hB3 hq13
  go_upto_region 26 with fail
  clear v0 v1 v2 v3 v4 v5 f1
  generalize ((((((w3.setCell ⟨w.heap.size+1,0,none⟩ (.int .i64 k)).setCell ⟨w.heap.size+1,1,none⟩ (.bool b)).setCell ⟨w.heap.size+1,2,none⟩ (.int .i64 n)).setCell ⟨w.heap.size+1,3,none⟩ (.string t)).setCell ⟨w.heap.size+1,4,none⟩ (.string x)).setCell ⟨w.heap.size+1,5,none⟩ (.slice ao l.length cap))=w4 at *
  have hq4:=hfin0.out
  have v0:=hq4.cell 0 rfl
  have v1:=hq4.cell 1 rfl
  have v2:=hq4.cell 2 rfl
  have v3:=hq4.cell 3 rfl
  have v4:=hq4.cell 4 rfl
  have v5:=hq4.cell 5 rfl
  have f1:=hq4.free
  clear hq4
  go_wp2
  have hfin:=Blk.set6 hfin0.out (.int .i64 k) (.bool b) (.int .i64 n) (.string t) (.string x) (.slice ao l.length cap)
  have hbf:=Below.set6 hbf0.out (b:=w.heap.size+1) (Nat.le_succ _) (.int .i64 k) (.bool b) (.int .i64 n) (.string t) (.string x) (.slice ao l.length cap)
  have hlf:=hlf0.out.set6 (w.heap.size+1) (fun h=>by have:=h.1;omega) (.int .i64 k) (.bool b) (.int .i64 n) (.string t) (.string x) (.slice ao l.length cap)
  exact bodyPost_ret (v:=.tuple #[agg6 k b n t x (.slice ao l.length cap),.int .i64 0,.bool true]) (res3 rfl _ _ (w.heap.size+1) 38 _ (0,0) _ _ _ rfl rfl rfl hfin.eq Tryz.underlying38 rfl infoV6) rfl ⟨k,b,n,t,x,ao,cap,l,rfl,hbf,hlf.mono fun c hc=>⟨by have:=hc.1;omega,by have:=hc.2;have:=hsz0.out;simp only[World.setCell,Array.size_modify]at this ⊢;omega⟩,hok3.out,hm3.out,fun _=>hk3.out trivial⟩
 ·have hq0:=(Blk.new w #[.int .i64 6,.string tx,.int .i64 kk,.bool bb,.int .i64 nn,.string t2,.string u2,.slice a1 a2 a3,.bool f,.slice aa argn ca,.slice ap plan cp,.slice am mt cm,.slice ag gp cg] 43).alloc (.cells #[.int .i64 0,.bool false,.int .i64 0,.string ⟨#[]⟩,.string ⟨#[]⟩,.slice none 0 0] 38)
  have hq1:=Blk.new (w.alloc (.cells #[.int .i64 6,.string tx,.int .i64 kk,.bool bb,.int .i64 nn,.string t2,.string u2,.slice a1 a2 a3,.bool f,.slice aa argn ca,.slice ap plan cp,.slice am mt cm,.slice ag gp cg] 43)) #[.int .i64 0,.bool false,.int .i64 0,.string ⟨#[]⟩,.string ⟨#[]⟩,.slice none 0 0] 38
  rw[World.size_alloc]at hq1
  have hal:Below w.heap.size w ((w.alloc (.cells #[.int .i64 6,.string tx,.int .i64 kk,.bool bb,.int .i64 nn,.string t2,.string u2,.slice a1 a2 a3,.bool f,.slice aa argn ca,.slice ap plan cp,.slice am mt cm,.slice ag gp cg] 43)).alloc (.cells #[.int .i64 0,.bool false,.int .i64 0,.string ⟨#[]⟩,.string ⟨#[]⟩,.slice none 0 0] 38)):=((Below.refl _ _).alloc (Nat.le_refl _) _).alloc (by rw[World.size_alloc];omega) _
  have hsz:((w.alloc (.cells #[.int .i64 6,.string tx,.int .i64 kk,.bool bb,.int .i64 nn,.string t2,.string u2,.slice a1 a2 a3,.bool f,.slice aa argn ca,.slice ap plan cp,.slice am mt cm,.slice ag gp cg] 43)).alloc (.cells #[.int .i64 0,.bool false,.int .i64 0,.string ⟨#[]⟩,.string ⟨#[]⟩,.slice none 0 0] 38)).heap.size=w.heap.size+2:=by simp only[World.size_alloc]
  have cC:=Hd (cX _ hal)
  have t0:=hq0.cell 0 rfl
  have t1:=hq0.cell 1 rfl
  have t2a:=hq0.cell 2 rfl
  have t3:=hq0.cell 3 rfl
  have t4:=hq0.cell 4 rfl
  have t5:=hq0.cell 5 rfl
  have t6:=hq0.cell 6 rfl
  have t7:=hq0.cell 7 rfl
  have t8:=hq0.cell 8 rfl
  have t9:=hq0.cell 9 rfl
  have t10:=hq0.cell 10 rfl
  have t11:=hq0.cell 11 rfl
  have t12:=hq0.cell 12 rfl
  replace hq0:=Hd hq0
  replace hq1:=Hd hq1
  replace hal:=Hd hal
  replace hsz:=Hd hsz
  clear cX
  go_enter Tryz.func36,Tryz.ntmps36
  go_wp2_with fail
  refine cC.out.mono ?_
  rintro e w3 ⟨k,b,n,t,x,ao,cap,l,rfl,hb3,hl3,hok3,hm3,hk3⟩
  unfold agg6
  rw[hsz.out]at hl3
  have hq13:Blk w3 (w.heap.size+1) #[.int .i64 0,.bool false,.int .i64 0,.string ⟨#[]⟩,.string ⟨#[]⟩,.slice none 0 0] 38:=(hb3.block _ hq1.out.lt).trans hq1.out
  have hB3:=hal.out.trans (hb3.mono hal.out.size)
  clear t0 t1 t2a t3 t4 t5 t6 t7 t8 t9 t10 t11 t12
  have v0:=hq13.cell 0 rfl
  have v1:=hq13.cell 1 rfl
  have v2:=hq13.cell 2 rfl
  have v3:=hq13.cell 3 rfl
  have v4:=hq13.cell 4 rfl
  have v5:=hq13.cell 5 rfl
  have f1:=hq13.free
  have hfin0:Hid (Blk ((((((w3.setCell ⟨w.heap.size+1,0,none⟩ (.int .i64 k)).setCell ⟨w.heap.size+1,1,none⟩ (.bool b)).setCell ⟨w.heap.size+1,2,none⟩ (.int .i64 n)).setCell ⟨w.heap.size+1,3,none⟩ (.string t)).setCell ⟨w.heap.size+1,4,none⟩ (.string x)).setCell ⟨w.heap.size+1,5,none⟩ (.slice ao l.length cap)) (w.heap.size+1) #[.int .i64 k,.bool b,.int .i64 n,.string t,.string x,.slice ao l.length cap] 38):=Hd (Blk.set6 hq13 (.int .i64 k) (.bool b) (.int .i64 n) (.string t) (.string x) (.slice ao l.length cap))
  have hbf0:Hid (Below w.heap.size w ((((((w3.setCell ⟨w.heap.size+1,0,none⟩ (.int .i64 k)).setCell ⟨w.heap.size+1,1,none⟩ (.bool b)).setCell ⟨w.heap.size+1,2,none⟩ (.int .i64 n)).setCell ⟨w.heap.size+1,3,none⟩ (.string t)).setCell ⟨w.heap.size+1,4,none⟩ (.string x)).setCell ⟨w.heap.size+1,5,none⟩ (.slice ao l.length cap))):=Hd (Below.set6 hB3 (b:=w.heap.size+1) (Nat.le_succ _) (.int .i64 k) (.bool b) (.int .i64 n) (.string t) (.string x) (.slice ao l.length cap))
  have hlf0:Hid (LF ((((((w3.setCell ⟨w.heap.size+1,0,none⟩ (.int .i64 k)).setCell ⟨w.heap.size+1,1,none⟩ (.bool b)).setCell ⟨w.heap.size+1,2,none⟩ (.int .i64 n)).setCell ⟨w.heap.size+1,3,none⟩ (.string t)).setCell ⟨w.heap.size+1,4,none⟩ (.string x)).setCell ⟨w.heap.size+1,5,none⟩ (.slice ao l.length cap)) 1048576 (Fr (w.heap.size+2) w3) (.slice ao l.length cap) l):=Hd (hl3.set6 (w.heap.size+1) (fun h=>by have:=h.1;omega) (.int .i64 k) (.bool b) (.int .i64 n) (.string t) (.string x) (.slice ao l.length cap))
  have hsz0:Hid (((((((w3.setCell ⟨w.heap.size+1,0,none⟩ (.int .i64 k)).setCell ⟨w.heap.size+1,1,none⟩ (.bool b)).setCell ⟨w.heap.size+1,2,none⟩ (.int .i64 n)).setCell ⟨w.heap.size+1,3,none⟩ (.string t)).setCell ⟨w.heap.size+1,4,none⟩ (.string x)).setCell ⟨w.heap.size+1,5,none⟩ (.slice ao l.length cap)).heap.size=w3.heap.size):=Hd (by simp only[World.setCell,Array.size_modify])
  replace hok3:=Hd hok3
  replace hm3:=Hd hm3
  replace hk3:=Hd hk3
  clear cC hb3 hq1 hq0 hl3 hB3 hq13
  go_upto_region 26 with fail
  clear v0 v1 v2 v3 v4 v5 f1
  generalize ((((((w3.setCell ⟨w.heap.size+1,0,none⟩ (.int .i64 k)).setCell ⟨w.heap.size+1,1,none⟩ (.bool b)).setCell ⟨w.heap.size+1,2,none⟩ (.int .i64 n)).setCell ⟨w.heap.size+1,3,none⟩ (.string t)).setCell ⟨w.heap.size+1,4,none⟩ (.string x)).setCell ⟨w.heap.size+1,5,none⟩ (.slice ao l.length cap))=w4 at *
  have hq4:=hfin0.out
  have v0:=hq4.cell 0 rfl
  have v1:=hq4.cell 1 rfl
  have v2:=hq4.cell 2 rfl
  have v3:=hq4.cell 3 rfl
  have v4:=hq4.cell 4 rfl
  have v5:=hq4.cell 5 rfl
  have f1:=hq4.free
  clear hq4
  go_wp2
  have hfin:=Blk.set6 hfin0.out (.int .i64 k) (.bool b) (.int .i64 n) (.string t) (.string x) (.slice ao l.length cap)
  have hbf:=Below.set6 hbf0.out (b:=w.heap.size+1) (Nat.le_succ _) (.int .i64 k) (.bool b) (.int .i64 n) (.string t) (.string x) (.slice ao l.length cap)
  have hlf:=hlf0.out.set6 (w.heap.size+1) (fun h=>by have:=h.1;omega) (.int .i64 k) (.bool b) (.int .i64 n) (.string t) (.string x) (.slice ao l.length cap)
  exact bodyPost_ret (v:=.tuple #[agg6 k b n t x (.slice ao l.length cap),.int .i64 0,.bool true]) (res3 rfl _ _ (w.heap.size+1) 38 _ (0,0) _ _ _ rfl rfl rfl hfin.eq Tryz.underlying38 rfl infoV6) rfl ⟨k,b,n,t,x,ao,cap,l,rfl,hbf,hlf.mono fun c hc=>⟨by have:=hc.1;omega,by have:=hc.2;have:=hsz0.out;simp only[World.setCell,Array.size_modify]at this ⊢;omega⟩,hok3.out,hm3.out,fun _=>hk3.out trivial⟩
 ·have hq0:=(Blk.new w #[.int .i64 7,.string tx,.int .i64 kk,.bool bb,.int .i64 nn,.string t2,.string u2,.slice a1 a2 a3,.bool f,.slice aa argn ca,.slice ap plan cp,.slice am mt cm,.slice ag gp cg] 43).alloc (.cells #[.int .i64 0,.bool false,.int .i64 0,.string ⟨#[]⟩,.string ⟨#[]⟩,.slice none 0 0] 38)
  have hq1:=Blk.new (w.alloc (.cells #[.int .i64 7,.string tx,.int .i64 kk,.bool bb,.int .i64 nn,.string t2,.string u2,.slice a1 a2 a3,.bool f,.slice aa argn ca,.slice ap plan cp,.slice am mt cm,.slice ag gp cg] 43)) #[.int .i64 0,.bool false,.int .i64 0,.string ⟨#[]⟩,.string ⟨#[]⟩,.slice none 0 0] 38
  rw[World.size_alloc]at hq1
  have hal:Below w.heap.size w ((w.alloc (.cells #[.int .i64 7,.string tx,.int .i64 kk,.bool bb,.int .i64 nn,.string t2,.string u2,.slice a1 a2 a3,.bool f,.slice aa argn ca,.slice ap plan cp,.slice am mt cm,.slice ag gp cg] 43)).alloc (.cells #[.int .i64 0,.bool false,.int .i64 0,.string ⟨#[]⟩,.string ⟨#[]⟩,.slice none 0 0] 38)):=((Below.refl _ _).alloc (Nat.le_refl _) _).alloc (by rw[World.size_alloc];omega) _
  have hsz:((w.alloc (.cells #[.int .i64 7,.string tx,.int .i64 kk,.bool bb,.int .i64 nn,.string t2,.string u2,.slice a1 a2 a3,.bool f,.slice aa argn ca,.slice ap plan cp,.slice am mt cm,.slice ag gp cg] 43)).alloc (.cells #[.int .i64 0,.bool false,.int .i64 0,.string ⟨#[]⟩,.string ⟨#[]⟩,.slice none 0 0] 38)).heap.size=w.heap.size+2:=by simp only[World.size_alloc]
  have cC:=Hd (cX _ hal)
  have t0:=hq0.cell 0 rfl
  have t1:=hq0.cell 1 rfl
  have t2a:=hq0.cell 2 rfl
  have t3:=hq0.cell 3 rfl
  have t4:=hq0.cell 4 rfl
  have t5:=hq0.cell 5 rfl
  have t6:=hq0.cell 6 rfl
  have t7:=hq0.cell 7 rfl
  have t8:=hq0.cell 8 rfl
  have t9:=hq0.cell 9 rfl
  have t10:=hq0.cell 10 rfl
  have t11:=hq0.cell 11 rfl
  have t12:=hq0.cell 12 rfl
  replace hq0:=Hd hq0
  replace hq1:=Hd hq1
  replace hal:=Hd hal
  replace hsz:=Hd hsz
  clear cX
  go_enter Tryz.func36,Tryz.ntmps36
  go_wp2_with fail
  refine cC.out.mono ?_
  rintro e w3 ⟨k,b,n,t,x,ao,cap,l,rfl,hb3,hl3,hok3,hm3,hk3⟩
  unfold agg6
  rw[hsz.out]at hl3
  have hq13:Blk w3 (w.heap.size+1) #[.int .i64 0,.bool false,.int .i64 0,.string ⟨#[]⟩,.string ⟨#[]⟩,.slice none 0 0] 38:=(hb3.block _ hq1.out.lt).trans hq1.out
  have hB3:=hal.out.trans (hb3.mono hal.out.size)
  clear t0 t1 t2a t3 t4 t5 t6 t7 t8 t9 t10 t11 t12
  have v0:=hq13.cell 0 rfl
  have v1:=hq13.cell 1 rfl
  have v2:=hq13.cell 2 rfl
  have v3:=hq13.cell 3 rfl
  have v4:=hq13.cell 4 rfl
  have v5:=hq13.cell 5 rfl
  have f1:=hq13.free
  have hfin0:Hid (Blk ((((((w3.setCell ⟨w.heap.size+1,0,none⟩ (.int .i64 k)).setCell ⟨w.heap.size+1,1,none⟩ (.bool b)).setCell ⟨w.heap.size+1,2,none⟩ (.int .i64 n)).setCell ⟨w.heap.size+1,3,none⟩ (.string t)).setCell ⟨w.heap.size+1,4,none⟩ (.string x)).setCell ⟨w.heap.size+1,5,none⟩ (.slice ao l.length cap)) (w.heap.size+1) #[.int .i64 k,.bool b,.int .i64 n,.string t,.string x,.slice ao l.length cap] 38):=Hd (Blk.set6 hq13 (.int .i64 k) (.bool b) (.int .i64 n) (.string t) (.string x) (.slice ao l.length cap))
  have hbf0:Hid (Below w.heap.size w ((((((w3.setCell ⟨w.heap.size+1,0,none⟩ (.int .i64 k)).setCell ⟨w.heap.size+1,1,none⟩ (.bool b)).setCell ⟨w.heap.size+1,2,none⟩ (.int .i64 n)).setCell ⟨w.heap.size+1,3,none⟩ (.string t)).setCell ⟨w.heap.size+1,4,none⟩ (.string x)).setCell ⟨w.heap.size+1,5,none⟩ (.slice ao l.length cap))):=Hd (Below.set6 hB3 (b:=w.heap.size+1) (Nat.le_succ _) (.int .i64 k) (.bool b) (.int .i64 n) (.string t) (.string x) (.slice ao l.length cap))
  have hlf0:Hid (LF ((((((w3.setCell ⟨w.heap.size+1,0,none⟩ (.int .i64 k)).setCell ⟨w.heap.size+1,1,none⟩ (.bool b)).setCell ⟨w.heap.size+1,2,none⟩ (.int .i64 n)).setCell ⟨w.heap.size+1,3,none⟩ (.string t)).setCell ⟨w.heap.size+1,4,none⟩ (.string x)).setCell ⟨w.heap.size+1,5,none⟩ (.slice ao l.length cap)) 1048576 (Fr (w.heap.size+2) w3) (.slice ao l.length cap) l):=Hd (hl3.set6 (w.heap.size+1) (fun h=>by have:=h.1;omega) (.int .i64 k) (.bool b) (.int .i64 n) (.string t) (.string x) (.slice ao l.length cap))
  have hsz0:Hid (((((((w3.setCell ⟨w.heap.size+1,0,none⟩ (.int .i64 k)).setCell ⟨w.heap.size+1,1,none⟩ (.bool b)).setCell ⟨w.heap.size+1,2,none⟩ (.int .i64 n)).setCell ⟨w.heap.size+1,3,none⟩ (.string t)).setCell ⟨w.heap.size+1,4,none⟩ (.string x)).setCell ⟨w.heap.size+1,5,none⟩ (.slice ao l.length cap)).heap.size=w3.heap.size):=Hd (by simp only[World.setCell,Array.size_modify])
  replace hok3:=Hd hok3
  replace hm3:=Hd hm3
  replace hk3:=Hd hk3
  clear cC hb3 hq1 hq0 hl3 hB3 hq13
  go_upto_region 26 with fail
  clear v0 v1 v2 v3 v4 v5 f1
  generalize ((((((w3.setCell ⟨w.heap.size+1,0,none⟩ (.int .i64 k)).setCell ⟨w.heap.size+1,1,none⟩ (.bool b)).setCell ⟨w.heap.size+1,2,none⟩ (.int .i64 n)).setCell ⟨w.heap.size+1,3,none⟩ (.string t)).setCell ⟨w.heap.size+1,4,none⟩ (.string x)).setCell ⟨w.heap.size+1,5,none⟩ (.slice ao l.length cap))=w4 at *
  have hq4:=hfin0.out
  have v0:=hq4.cell 0 rfl
  have v1:=hq4.cell 1 rfl
  have v2:=hq4.cell 2 rfl
  have v3:=hq4.cell 3 rfl
  have v4:=hq4.cell 4 rfl
  have v5:=hq4.cell 5 rfl
  have f1:=hq4.free
  clear hq4
  go_wp2
  have hfin:=Blk.set6 hfin0.out (.int .i64 k) (.bool b) (.int .i64 n) (.string t) (.string x) (.slice ao l.length cap)
  have hbf:=Below.set6 hbf0.out (b:=w.heap.size+1) (Nat.le_succ _) (.int .i64 k) (.bool b) (.int .i64 n) (.string t) (.string x) (.slice ao l.length cap)
  have hlf:=hlf0.out.set6 (w.heap.size+1) (fun h=>by have:=h.1;omega) (.int .i64 k) (.bool b) (.int .i64 n) (.string t) (.string x) (.slice ao l.length cap)
  exact bodyPost_ret (v:=.tuple #[agg6 k b n t x (.slice ao l.length cap),.int .i64 0,.bool true]) (res3 rfl _ _ (w.heap.size+1) 38 _ (0,0) _ _ _ rfl rfl rfl hfin.eq Tryz.underlying38 rfl infoV6) rfl ⟨k,b,n,t,x,ao,cap,l,rfl,hbf,hlf.mono fun c hc=>⟨by have:=hc.1;omega,by have:=hc.2;have:=hsz0.out;simp only[World.setCell,Array.size_modify]at this ⊢;omega⟩,hok3.out,hm3.out,fun _=>hk3.out trivial⟩
 ·have hq0:=(Blk.new w #[.int .i64 8,.string tx,.int .i64 kk,.bool bb,.int .i64 nn,.string t2,.string u2,.slice a1 a2 a3,.bool f,.slice aa argn ca,.slice ap plan cp,.slice am mt cm,.slice ag gp cg] 43).alloc (.cells #[.int .i64 0,.bool false,.int .i64 0,.string ⟨#[]⟩,.string ⟨#[]⟩,.slice none 0 0] 38)
  have hq1:=Blk.new (w.alloc (.cells #[.int .i64 8,.string tx,.int .i64 kk,.bool bb,.int .i64 nn,.string t2,.string u2,.slice a1 a2 a3,.bool f,.slice aa argn ca,.slice ap plan cp,.slice am mt cm,.slice ag gp cg] 43)) #[.int .i64 0,.bool false,.int .i64 0,.string ⟨#[]⟩,.string ⟨#[]⟩,.slice none 0 0] 38
  rw[World.size_alloc]at hq1
  have hal:Below w.heap.size w ((w.alloc (.cells #[.int .i64 8,.string tx,.int .i64 kk,.bool bb,.int .i64 nn,.string t2,.string u2,.slice a1 a2 a3,.bool f,.slice aa argn ca,.slice ap plan cp,.slice am mt cm,.slice ag gp cg] 43)).alloc (.cells #[.int .i64 0,.bool false,.int .i64 0,.string ⟨#[]⟩,.string ⟨#[]⟩,.slice none 0 0] 38)):=((Below.refl _ _).alloc (Nat.le_refl _) _).alloc (by rw[World.size_alloc];omega) _
  have hsz:((w.alloc (.cells #[.int .i64 8,.string tx,.int .i64 kk,.bool bb,.int .i64 nn,.string t2,.string u2,.slice a1 a2 a3,.bool f,.slice aa argn ca,.slice ap plan cp,.slice am mt cm,.slice ag gp cg] 43)).alloc (.cells #[.int .i64 0,.bool false,.int .i64 0,.string ⟨#[]⟩,.string ⟨#[]⟩,.slice none 0 0] 38)).heap.size=w.heap.size+2:=by simp only[World.size_alloc]
  have cC:=Hd (cX _ hal)
  have t0:=hq0.cell 0 rfl
  have t1:=hq0.cell 1 rfl
  have t2a:=hq0.cell 2 rfl
  have t3:=hq0.cell 3 rfl
  have t4:=hq0.cell 4 rfl
  have t5:=hq0.cell 5 rfl
  have t6:=hq0.cell 6 rfl
  have t7:=hq0.cell 7 rfl
  have t8:=hq0.cell 8 rfl
  have t9:=hq0.cell 9 rfl
  have t10:=hq0.cell 10 rfl
  have t11:=hq0.cell 11 rfl
  have t12:=hq0.cell 12 rfl
  replace hq0:=Hd hq0
  replace hq1:=Hd hq1
  replace hal:=Hd hal
  replace hsz:=Hd hsz
  clear cX
  go_enter Tryz.func36,Tryz.ntmps36
  go_wp2_with fail
  refine cC.out.mono ?_
  rintro e w3 ⟨k,b,n,t,x,ao,cap,l,rfl,hb3,hl3,hok3,hm3,hk3⟩
  unfold agg6
  rw[hsz.out]at hl3
  have hq13:Blk w3 (w.heap.size+1) #[.int .i64 0,.bool false,.int .i64 0,.string ⟨#[]⟩,.string ⟨#[]⟩,.slice none 0 0] 38:=(hb3.block _ hq1.out.lt).trans hq1.out
  have hB3:=hal.out.trans (hb3.mono hal.out.size)
  clear t0 t1 t2a t3 t4 t5 t6 t7 t8 t9 t10 t11 t12
  have v0:=hq13.cell 0 rfl
  have v1:=hq13.cell 1 rfl
  have v2:=hq13.cell 2 rfl
  have v3:=hq13.cell 3 rfl
  have v4:=hq13.cell 4 rfl
  have v5:=hq13.cell 5 rfl
  have f1:=hq13.free
  have hfin0:Hid (Blk ((((((w3.setCell ⟨w.heap.size+1,0,none⟩ (.int .i64 k)).setCell ⟨w.heap.size+1,1,none⟩ (.bool b)).setCell ⟨w.heap.size+1,2,none⟩ (.int .i64 n)).setCell ⟨w.heap.size+1,3,none⟩ (.string t)).setCell ⟨w.heap.size+1,4,none⟩ (.string x)).setCell ⟨w.heap.size+1,5,none⟩ (.slice ao l.length cap)) (w.heap.size+1) #[.int .i64 k,.bool b,.int .i64 n,.string t,.string x,.slice ao l.length cap] 38):=Hd (Blk.set6 hq13 (.int .i64 k) (.bool b) (.int .i64 n) (.string t) (.string x) (.slice ao l.length cap))
  have hbf0:Hid (Below w.heap.size w ((((((w3.setCell ⟨w.heap.size+1,0,none⟩ (.int .i64 k)).setCell ⟨w.heap.size+1,1,none⟩ (.bool b)).setCell ⟨w.heap.size+1,2,none⟩ (.int .i64 n)).setCell ⟨w.heap.size+1,3,none⟩ (.string t)).setCell ⟨w.heap.size+1,4,none⟩ (.string x)).setCell ⟨w.heap.size+1,5,none⟩ (.slice ao l.length cap))):=Hd (Below.set6 hB3 (b:=w.heap.size+1) (Nat.le_succ _) (.int .i64 k) (.bool b) (.int .i64 n) (.string t) (.string x) (.slice ao l.length cap))
  have hlf0:Hid (LF ((((((w3.setCell ⟨w.heap.size+1,0,none⟩ (.int .i64 k)).setCell ⟨w.heap.size+1,1,none⟩ (.bool b)).setCell ⟨w.heap.size+1,2,none⟩ (.int .i64 n)).setCell ⟨w.heap.size+1,3,none⟩ (.string t)).setCell ⟨w.heap.size+1,4,none⟩ (.string x)).setCell ⟨w.heap.size+1,5,none⟩ (.slice ao l.length cap)) 1048576 (Fr (w.heap.size+2) w3) (.slice ao l.length cap) l):=Hd (hl3.set6 (w.heap.size+1) (fun h=>by have:=h.1;omega) (.int .i64 k) (.bool b) (.int .i64 n) (.string t) (.string x) (.slice ao l.length cap))
  have hsz0:Hid (((((((w3.setCell ⟨w.heap.size+1,0,none⟩ (.int .i64 k)).setCell ⟨w.heap.size+1,1,none⟩ (.bool b)).setCell ⟨w.heap.size+1,2,none⟩ (.int .i64 n)).setCell ⟨w.heap.size+1,3,none⟩ (.string t)).setCell ⟨w.heap.size+1,4,none⟩ (.string x)).setCell ⟨w.heap.size+1,5,none⟩ (.slice ao l.length cap)).heap.size=w3.heap.size):=Hd (by simp only[World.setCell,Array.size_modify])
  replace hok3:=Hd hok3
  replace hm3:=Hd hm3
  replace hk3:=Hd hk3
  clear cC hb3 hq1 hq0 hl3 hB3 hq13
  go_upto_region 26 with fail
  clear v0 v1 v2 v3 v4 v5 f1
  generalize ((((((w3.setCell ⟨w.heap.size+1,0,none⟩ (.int .i64 k)).setCell ⟨w.heap.size+1,1,none⟩ (.bool b)).setCell ⟨w.heap.size+1,2,none⟩ (.int .i64 n)).setCell ⟨w.heap.size+1,3,none⟩ (.string t)).setCell ⟨w.heap.size+1,4,none⟩ (.string x)).setCell ⟨w.heap.size+1,5,none⟩ (.slice ao l.length cap))=w4 at *
  have hq4:=hfin0.out
  have v0:=hq4.cell 0 rfl
  have v1:=hq4.cell 1 rfl
  have v2:=hq4.cell 2 rfl
  have v3:=hq4.cell 3 rfl
  have v4:=hq4.cell 4 rfl
  have v5:=hq4.cell 5 rfl
  have f1:=hq4.free
  clear hq4
  go_wp2
  have hfin:=Blk.set6 hfin0.out (.int .i64 k) (.bool b) (.int .i64 n) (.string t) (.string x) (.slice ao l.length cap)
  have hbf:=Below.set6 hbf0.out (b:=w.heap.size+1) (Nat.le_succ _) (.int .i64 k) (.bool b) (.int .i64 n) (.string t) (.string x) (.slice ao l.length cap)
  have hlf:=hlf0.out.set6 (w.heap.size+1) (fun h=>by have:=h.1;omega) (.int .i64 k) (.bool b) (.int .i64 n) (.string t) (.string x) (.slice ao l.length cap)
  exact bodyPost_ret (v:=.tuple #[agg6 k b n t x (.slice ao l.length cap),.int .i64 0,.bool true]) (res3 rfl _ _ (w.heap.size+1) 38 _ (0,0) _ _ _ rfl rfl rfl hfin.eq Tryz.underlying38 rfl infoV6) rfl ⟨k,b,n,t,x,ao,cap,l,rfl,hbf,hlf.mono fun c hc=>⟨by have:=hc.1;omega,by have:=hc.2;have:=hsz0.out;simp only[World.setCell,Array.size_modify]at this ⊢;omega⟩,hok3.out,hm3.out,fun _=>hk3.out trivial⟩
theorem sing_null(tx:ByteArray)(kk:Int)(bb:Bool)(nn:Int)(t2 u2:ByteArray)(a1:Option Addr)(a2 a3:Nat)(f:Bool)(aa:Option Addr)(argn ca:Nat)(ap:Option Addr)(plan cp:Nat)(am:Option Addr)(mt cm:Nat)(ag:Option Addr)(gp cg:Nat)(w:World)(eb:Nat)(cX:∀W,Below w.heap.size w W→Calls Tryz.prog 57 #[.pointer (some ⟨eb,0,none⟩),.agg #[.int .i64 16,.string tx,.int .i64 kk,.bool bb,.int .i64 nn,.string t2,.string u2,.slice a1 a2 a3,.bool f,.slice aa argn ca,.slice ap plan cp,.slice am mt cm,.slice ag gp cg]] W (EvP true W)):
 Calls Tryz.prog 36 #[.pointer (some ⟨eb,0,none⟩),.agg #[.int .i64 16,.string tx,.int .i64 kk,.bool bb,.int .i64 nn,.string t2,.string u2,.slice a1 a2 a3,.bool f,.slice aa argn ca,.slice ap plan cp,.slice am mt cm,.slice ag gp cg]] w (SgP true w):=by
 have hq0:=(Blk.new w #[.int .i64 16,.string tx,.int .i64 kk,.bool bb,.int .i64 nn,.string t2,.string u2,.slice a1 a2 a3,.bool f,.slice aa argn ca,.slice ap plan cp,.slice am mt cm,.slice ag gp cg] 43).alloc (.cells #[.int .i64 0,.bool false,.int .i64 0,.string ⟨#[]⟩,.string ⟨#[]⟩,.slice none 0 0] 38)
 have hq1:=Blk.new (w.alloc (.cells #[.int .i64 16,.string tx,.int .i64 kk,.bool bb,.int .i64 nn,.string t2,.string u2,.slice a1 a2 a3,.bool f,.slice aa argn ca,.slice ap plan cp,.slice am mt cm,.slice ag gp cg] 43)) #[.int .i64 0,.bool false,.int .i64 0,.string ⟨#[]⟩,.string ⟨#[]⟩,.slice none 0 0] 38
 rw[World.size_alloc]at hq1
 have hal:Below w.heap.size w ((w.alloc (.cells #[.int .i64 16,.string tx,.int .i64 kk,.bool bb,.int .i64 nn,.string t2,.string u2,.slice a1 a2 a3,.bool f,.slice aa argn ca,.slice ap plan cp,.slice am mt cm,.slice ag gp cg] 43)).alloc (.cells #[.int .i64 0,.bool false,.int .i64 0,.string ⟨#[]⟩,.string ⟨#[]⟩,.slice none 0 0] 38)):=((Below.refl _ _).alloc (Nat.le_refl _) _).alloc (by rw[World.size_alloc];omega) _
 have hsz:((w.alloc (.cells #[.int .i64 16,.string tx,.int .i64 kk,.bool bb,.int .i64 nn,.string t2,.string u2,.slice a1 a2 a3,.bool f,.slice aa argn ca,.slice ap plan cp,.slice am mt cm,.slice ag gp cg] 43)).alloc (.cells #[.int .i64 0,.bool false,.int .i64 0,.string ⟨#[]⟩,.string ⟨#[]⟩,.slice none 0 0] 38)).heap.size=w.heap.size+2:=by simp only[World.size_alloc]
 have cC:=Hd (cX _ hal)
 have t0:=hq0.cell 0 rfl
 have t1:=hq0.cell 1 rfl
 have t2a:=hq0.cell 2 rfl
 have t3:=hq0.cell 3 rfl
 have t4:=hq0.cell 4 rfl
 have t5:=hq0.cell 5 rfl
 have t6:=hq0.cell 6 rfl
 have t7:=hq0.cell 7 rfl
 have t8:=hq0.cell 8 rfl
 have t9:=hq0.cell 9 rfl
 have t10:=hq0.cell 10 rfl
 have t11:=hq0.cell 11 rfl
 have t12:=hq0.cell 12 rfl
 replace hq0:=Hd hq0
 replace hq1:=Hd hq1
 replace hal:=Hd hal
 replace hsz:=Hd hsz
 clear cX
 go_enter Tryz.func36,Tryz.ntmps36
 go_wp2_with fail
 refine cC.out.mono ?_
 rintro e w3 ⟨k,b,n,t,x,ao,cap,l,rfl,hb3,hl3,hok3,hm3,hk3⟩
 unfold agg6
 rw[hsz.out]at hl3
 have hq13:Blk w3 (w.heap.size+1) #[.int .i64 0,.bool false,.int .i64 0,.string ⟨#[]⟩,.string ⟨#[]⟩,.slice none 0 0] 38:=(hb3.block _ hq1.out.lt).trans hq1.out
 have hB3:=hal.out.trans (hb3.mono hal.out.size)
 clear t0 t1 t2a t3 t4 t5 t6 t7 t8 t9 t10 t11 t12
 have v0:=hq13.cell 0 rfl
 have v1:=hq13.cell 1 rfl
 have v2:=hq13.cell 2 rfl
 have v3:=hq13.cell 3 rfl
 have v4:=hq13.cell 4 rfl
 have v5:=hq13.cell 5 rfl
 have f1:=hq13.free
 have hfin0:Hid (Blk ((((((w3.setCell ⟨w.heap.size+1,0,none⟩ (.int .i64 k)).setCell ⟨w.heap.size+1,1,none⟩ (.bool b)).setCell ⟨w.heap.size+1,2,none⟩ (.int .i64 n)).setCell ⟨w.heap.size+1,3,none⟩ (.string t)).setCell ⟨w.heap.size+1,4,none⟩ (.string x)).setCell ⟨w.heap.size+1,5,none⟩ (.slice ao l.length cap)) (w.heap.size+1) #[.int .i64 k,.bool b,.int .i64 n,.string t,.string x,.slice ao l.length cap] 38):=Hd (Blk.set6 hq13 (.int .i64 k) (.bool b) (.int .i64 n) (.string t) (.string x) (.slice ao l.length cap))
 have hbf0:Hid (Below w.heap.size w ((((((w3.setCell ⟨w.heap.size+1,0,none⟩ (.int .i64 k)).setCell ⟨w.heap.size+1,1,none⟩ (.bool b)).setCell ⟨w.heap.size+1,2,none⟩ (.int .i64 n)).setCell ⟨w.heap.size+1,3,none⟩ (.string t)).setCell ⟨w.heap.size+1,4,none⟩ (.string x)).setCell ⟨w.heap.size+1,5,none⟩ (.slice ao l.length cap))):=Hd (Below.set6 hB3 (b:=w.heap.size+1) (Nat.le_succ _) (.int .i64 k) (.bool b) (.int .i64 n) (.string t) (.string x) (.slice ao l.length cap))
 have hlf0:Hid (LF ((((((w3.setCell ⟨w.heap.size+1,0,none⟩ (.int .i64 k)).setCell ⟨w.heap.size+1,1,none⟩ (.bool b)).setCell ⟨w.heap.size+1,2,none⟩ (.int .i64 n)).setCell ⟨w.heap.size+1,3,none⟩ (.string t)).setCell ⟨w.heap.size+1,4,none⟩ (.string x)).setCell ⟨w.heap.size+1,5,none⟩ (.slice ao l.length cap)) 1048576 (Fr (w.heap.size+2) w3) (.slice ao l.length cap) l):=Hd (hl3.set6 (w.heap.size+1) (fun h=>by have:=h.1;omega) (.int .i64 k) (.bool b) (.int .i64 n) (.string t) (.string x) (.slice ao l.length cap))
 have hsz0:Hid (((((((w3.setCell ⟨w.heap.size+1,0,none⟩ (.int .i64 k)).setCell ⟨w.heap.size+1,1,none⟩ (.bool b)).setCell ⟨w.heap.size+1,2,none⟩ (.int .i64 n)).setCell ⟨w.heap.size+1,3,none⟩ (.string t)).setCell ⟨w.heap.size+1,4,none⟩ (.string x)).setCell ⟨w.heap.size+1,5,none⟩ (.slice ao l.length cap)).heap.size=w3.heap.size):=Hd (by simp only[World.setCell,Array.size_modify])
 replace hok3:=Hd hok3
 replace hm3:=Hd hm3
 replace hk3:=Hd hk3
 clear cC hb3 hq1 hq0 hl3 hB3 hq13
 go_upto_region 26 with fail
 clear v0 v1 v2 v3 v4 v5 f1
 generalize ((((((w3.setCell ⟨w.heap.size+1,0,none⟩ (.int .i64 k)).setCell ⟨w.heap.size+1,1,none⟩ (.bool b)).setCell ⟨w.heap.size+1,2,none⟩ (.int .i64 n)).setCell ⟨w.heap.size+1,3,none⟩ (.string t)).setCell ⟨w.heap.size+1,4,none⟩ (.string x)).setCell ⟨w.heap.size+1,5,none⟩ (.slice ao l.length cap))=w4 at *
 have hq4:=hfin0.out
 have v0:=hq4.cell 0 rfl
 have v1:=hq4.cell 1 rfl
 have v2:=hq4.cell 2 rfl
 have v3:=hq4.cell 3 rfl
 have v4:=hq4.cell 4 rfl
 have v5:=hq4.cell 5 rfl
 have f1:=hq4.free
 clear hq4
 go_wp2
 have hfin:=Blk.set6 hfin0.out (.int .i64 k) (.bool b) (.int .i64 n) (.string t) (.string x) (.slice ao l.length cap)
 have hbf:=Below.set6 hbf0.out (b:=w.heap.size+1) (Nat.le_succ _) (.int .i64 k) (.bool b) (.int .i64 n) (.string t) (.string x) (.slice ao l.length cap)
 have hlf:=hlf0.out.set6 (w.heap.size+1) (fun h=>by have:=h.1;omega) (.int .i64 k) (.bool b) (.int .i64 n) (.string t) (.string x) (.slice ao l.length cap)
 exact bodyPost_ret (v:=.tuple #[agg6 k b n t x (.slice ao l.length cap),.int .i64 0,.bool true]) (res3 rfl _ _ (w.heap.size+1) 38 _ (0,0) _ _ _ rfl rfl rfl hfin.eq Tryz.underlying38 rfl infoV6) rfl ⟨k,b,n,t,x,ao,cap,l,rfl,hbf,hlf.mono fun c hc=>⟨by have:=hc.1;omega,by have:=hc.2;have:=hsz0.out;simp only[World.setCell,Array.size_modify]at this ⊢;omega⟩,hok3.out,hm3.out,fun _=>hk3.out trivial⟩
def NoP(w:World)(e:Ending)(w':World):Prop:=e=.returned (.tuple #[.agg #[.int .i64 0,.bool false,.int .i64 0,.string ⟨#[]⟩,.string ⟨#[]⟩,.slice none 0 0],.int .i64 0,.bool false])∧Below w.heap.size w w'
theorem sing_comp(op:Int)(hop:9≤op∧op≤14)(tx:ByteArray)(kk:Int)(bb:Bool)(nn:Int)(t2 u2:ByteArray)(a1:Option Addr)(a2 a3:Nat)(f:Bool)(aa:Option Addr)(argn ca:Nat)(ap:Option Addr)(plan cp:Nat)(am:Option Addr)(mt cm:Nat)(ag:Option Addr)(gp cg:Nat)(w:World)(xv:Value):
 Calls Tryz.prog 36 #[xv,.agg #[.int .i64 op,.string tx,.int .i64 kk,.bool bb,.int .i64 nn,.string t2,.string u2,.slice a1 a2 a3,.bool f,.slice aa argn ca,.slice ap plan cp,.slice am mt cm,.slice ag gp cg]] w (NoP w):=by
 rcases(by omega:op=9∨op=10∨op=11∨op=12∨op=13∨op=14) with rfl|rfl|rfl|rfl|rfl|rfl
 ·have hq0:=(Blk.new w #[.int .i64 9,.string tx,.int .i64 kk,.bool bb,.int .i64 nn,.string t2,.string u2,.slice a1 a2 a3,.bool f,.slice aa argn ca,.slice ap plan cp,.slice am mt cm,.slice ag gp cg] 43).alloc (.cells #[.int .i64 0,.bool false,.int .i64 0,.string ⟨#[]⟩,.string ⟨#[]⟩,.slice none 0 0] 38)
  have hq1:=Blk.new (w.alloc (.cells #[.int .i64 9,.string tx,.int .i64 kk,.bool bb,.int .i64 nn,.string t2,.string u2,.slice a1 a2 a3,.bool f,.slice aa argn ca,.slice ap plan cp,.slice am mt cm,.slice ag gp cg] 43)) #[.int .i64 0,.bool false,.int .i64 0,.string ⟨#[]⟩,.string ⟨#[]⟩,.slice none 0 0] 38
  rw[World.size_alloc]at hq1
  have hal:Below w.heap.size w ((w.alloc (.cells #[.int .i64 9,.string tx,.int .i64 kk,.bool bb,.int .i64 nn,.string t2,.string u2,.slice a1 a2 a3,.bool f,.slice aa argn ca,.slice ap plan cp,.slice am mt cm,.slice ag gp cg] 43)).alloc (.cells #[.int .i64 0,.bool false,.int .i64 0,.string ⟨#[]⟩,.string ⟨#[]⟩,.slice none 0 0] 38)):=((Below.refl _ _).alloc (Nat.le_refl _) _).alloc (by rw[World.size_alloc];omega) _
  have x0:=hq0.cell 0 rfl
  replace hq1:=Hd hq1
  replace hal:=Hd hal
  clear hq0
  go_enter Tryz.func36,Tryz.ntmps36
  go_wp2
  exact bodyPost_ret (v:=.tuple #[.agg #[.int .i64 0,.bool false,.int .i64 0,.string ⟨#[]⟩,.string ⟨#[]⟩,.slice none 0 0],.int .i64 0,.bool false]) (res3 rfl _ _ (w.heap.size+1) 38 _ (0,0) _ _ _ rfl rfl rfl hq1.out.eq Tryz.underlying38 rfl infoV6) rfl ⟨rfl,hal.out⟩
 ·have hq0:=(Blk.new w #[.int .i64 10,.string tx,.int .i64 kk,.bool bb,.int .i64 nn,.string t2,.string u2,.slice a1 a2 a3,.bool f,.slice aa argn ca,.slice ap plan cp,.slice am mt cm,.slice ag gp cg] 43).alloc (.cells #[.int .i64 0,.bool false,.int .i64 0,.string ⟨#[]⟩,.string ⟨#[]⟩,.slice none 0 0] 38)
  have hq1:=Blk.new (w.alloc (.cells #[.int .i64 10,.string tx,.int .i64 kk,.bool bb,.int .i64 nn,.string t2,.string u2,.slice a1 a2 a3,.bool f,.slice aa argn ca,.slice ap plan cp,.slice am mt cm,.slice ag gp cg] 43)) #[.int .i64 0,.bool false,.int .i64 0,.string ⟨#[]⟩,.string ⟨#[]⟩,.slice none 0 0] 38
  rw[World.size_alloc]at hq1
  have hal:Below w.heap.size w ((w.alloc (.cells #[.int .i64 10,.string tx,.int .i64 kk,.bool bb,.int .i64 nn,.string t2,.string u2,.slice a1 a2 a3,.bool f,.slice aa argn ca,.slice ap plan cp,.slice am mt cm,.slice ag gp cg] 43)).alloc (.cells #[.int .i64 0,.bool false,.int .i64 0,.string ⟨#[]⟩,.string ⟨#[]⟩,.slice none 0 0] 38)):=((Below.refl _ _).alloc (Nat.le_refl _) _).alloc (by rw[World.size_alloc];omega) _
  have x0:=hq0.cell 0 rfl
  replace hq1:=Hd hq1
  replace hal:=Hd hal
  clear hq0
  go_enter Tryz.func36,Tryz.ntmps36
  go_wp2
  exact bodyPost_ret (v:=.tuple #[.agg #[.int .i64 0,.bool false,.int .i64 0,.string ⟨#[]⟩,.string ⟨#[]⟩,.slice none 0 0],.int .i64 0,.bool false]) (res3 rfl _ _ (w.heap.size+1) 38 _ (0,0) _ _ _ rfl rfl rfl hq1.out.eq Tryz.underlying38 rfl infoV6) rfl ⟨rfl,hal.out⟩
 ·have hq0:=(Blk.new w #[.int .i64 11,.string tx,.int .i64 kk,.bool bb,.int .i64 nn,.string t2,.string u2,.slice a1 a2 a3,.bool f,.slice aa argn ca,.slice ap plan cp,.slice am mt cm,.slice ag gp cg] 43).alloc (.cells #[.int .i64 0,.bool false,.int .i64 0,.string ⟨#[]⟩,.string ⟨#[]⟩,.slice none 0 0] 38)
  have hq1:=Blk.new (w.alloc (.cells #[.int .i64 11,.string tx,.int .i64 kk,.bool bb,.int .i64 nn,.string t2,.string u2,.slice a1 a2 a3,.bool f,.slice aa argn ca,.slice ap plan cp,.slice am mt cm,.slice ag gp cg] 43)) #[.int .i64 0,.bool false,.int .i64 0,.string ⟨#[]⟩,.string ⟨#[]⟩,.slice none 0 0] 38
  rw[World.size_alloc]at hq1
  have hal:Below w.heap.size w ((w.alloc (.cells #[.int .i64 11,.string tx,.int .i64 kk,.bool bb,.int .i64 nn,.string t2,.string u2,.slice a1 a2 a3,.bool f,.slice aa argn ca,.slice ap plan cp,.slice am mt cm,.slice ag gp cg] 43)).alloc (.cells #[.int .i64 0,.bool false,.int .i64 0,.string ⟨#[]⟩,.string ⟨#[]⟩,.slice none 0 0] 38)):=((Below.refl _ _).alloc (Nat.le_refl _) _).alloc (by rw[World.size_alloc];omega) _
  have x0:=hq0.cell 0 rfl
  replace hq1:=Hd hq1
  replace hal:=Hd hal
  clear hq0
  go_enter Tryz.func36,Tryz.ntmps36
  go_wp2
  exact bodyPost_ret (v:=.tuple #[.agg #[.int .i64 0,.bool false,.int .i64 0,.string ⟨#[]⟩,.string ⟨#[]⟩,.slice none 0 0],.int .i64 0,.bool false]) (res3 rfl _ _ (w.heap.size+1) 38 _ (0,0) _ _ _ rfl rfl rfl hq1.out.eq Tryz.underlying38 rfl infoV6) rfl ⟨rfl,hal.out⟩
 ·have hq0:=(Blk.new w #[.int .i64 12,.string tx,.int .i64 kk,.bool bb,.int .i64 nn,.string t2,.string u2,.slice a1 a2 a3,.bool f,.slice aa argn ca,.slice ap plan cp,.slice am mt cm,.slice ag gp cg] 43).alloc (.cells #[.int .i64 0,.bool false,.int .i64 0,.string ⟨#[]⟩,.string ⟨#[]⟩,.slice none 0 0] 38)
  have hq1:=Blk.new (w.alloc (.cells #[.int .i64 12,.string tx,.int .i64 kk,.bool bb,.int .i64 nn,.string t2,.string u2,.slice a1 a2 a3,.bool f,.slice aa argn ca,.slice ap plan cp,.slice am mt cm,.slice ag gp cg] 43)) #[.int .i64 0,.bool false,.int .i64 0,.string ⟨#[]⟩,.string ⟨#[]⟩,.slice none 0 0] 38
  rw[World.size_alloc]at hq1
  have hal:Below w.heap.size w ((w.alloc (.cells #[.int .i64 12,.string tx,.int .i64 kk,.bool bb,.int .i64 nn,.string t2,.string u2,.slice a1 a2 a3,.bool f,.slice aa argn ca,.slice ap plan cp,.slice am mt cm,.slice ag gp cg] 43)).alloc (.cells #[.int .i64 0,.bool false,.int .i64 0,.string ⟨#[]⟩,.string ⟨#[]⟩,.slice none 0 0] 38)):=((Below.refl _ _).alloc (Nat.le_refl _) _).alloc (by rw[World.size_alloc];omega) _
  have x0:=hq0.cell 0 rfl
  replace hq1:=Hd hq1
  replace hal:=Hd hal
  clear hq0
  go_enter Tryz.func36,Tryz.ntmps36
  go_wp2
  exact bodyPost_ret (v:=.tuple #[.agg #[.int .i64 0,.bool false,.int .i64 0,.string ⟨#[]⟩,.string ⟨#[]⟩,.slice none 0 0],.int .i64 0,.bool false]) (res3 rfl _ _ (w.heap.size+1) 38 _ (0,0) _ _ _ rfl rfl rfl hq1.out.eq Tryz.underlying38 rfl infoV6) rfl ⟨rfl,hal.out⟩
 ·have hq0:=(Blk.new w #[.int .i64 13,.string tx,.int .i64 kk,.bool bb,.int .i64 nn,.string t2,.string u2,.slice a1 a2 a3,.bool f,.slice aa argn ca,.slice ap plan cp,.slice am mt cm,.slice ag gp cg] 43).alloc (.cells #[.int .i64 0,.bool false,.int .i64 0,.string ⟨#[]⟩,.string ⟨#[]⟩,.slice none 0 0] 38)
  have hq1:=Blk.new (w.alloc (.cells #[.int .i64 13,.string tx,.int .i64 kk,.bool bb,.int .i64 nn,.string t2,.string u2,.slice a1 a2 a3,.bool f,.slice aa argn ca,.slice ap plan cp,.slice am mt cm,.slice ag gp cg] 43)) #[.int .i64 0,.bool false,.int .i64 0,.string ⟨#[]⟩,.string ⟨#[]⟩,.slice none 0 0] 38
  rw[World.size_alloc]at hq1
  have hal:Below w.heap.size w ((w.alloc (.cells #[.int .i64 13,.string tx,.int .i64 kk,.bool bb,.int .i64 nn,.string t2,.string u2,.slice a1 a2 a3,.bool f,.slice aa argn ca,.slice ap plan cp,.slice am mt cm,.slice ag gp cg] 43)).alloc (.cells #[.int .i64 0,.bool false,.int .i64 0,.string ⟨#[]⟩,.string ⟨#[]⟩,.slice none 0 0] 38)):=((Below.refl _ _).alloc (Nat.le_refl _) _).alloc (by rw[World.size_alloc];omega) _
  have x0:=hq0.cell 0 rfl
  replace hq1:=Hd hq1
  replace hal:=Hd hal
  clear hq0
  go_enter Tryz.func36,Tryz.ntmps36
  go_wp2
  exact bodyPost_ret (v:=.tuple #[.agg #[.int .i64 0,.bool false,.int .i64 0,.string ⟨#[]⟩,.string ⟨#[]⟩,.slice none 0 0],.int .i64 0,.bool false]) (res3 rfl _ _ (w.heap.size+1) 38 _ (0,0) _ _ _ rfl rfl rfl hq1.out.eq Tryz.underlying38 rfl infoV6) rfl ⟨rfl,hal.out⟩
 ·have hq0:=(Blk.new w #[.int .i64 14,.string tx,.int .i64 kk,.bool bb,.int .i64 nn,.string t2,.string u2,.slice a1 a2 a3,.bool f,.slice aa argn ca,.slice ap plan cp,.slice am mt cm,.slice ag gp cg] 43).alloc (.cells #[.int .i64 0,.bool false,.int .i64 0,.string ⟨#[]⟩,.string ⟨#[]⟩,.slice none 0 0] 38)
  have hq1:=Blk.new (w.alloc (.cells #[.int .i64 14,.string tx,.int .i64 kk,.bool bb,.int .i64 nn,.string t2,.string u2,.slice a1 a2 a3,.bool f,.slice aa argn ca,.slice ap plan cp,.slice am mt cm,.slice ag gp cg] 43)) #[.int .i64 0,.bool false,.int .i64 0,.string ⟨#[]⟩,.string ⟨#[]⟩,.slice none 0 0] 38
  rw[World.size_alloc]at hq1
  have hal:Below w.heap.size w ((w.alloc (.cells #[.int .i64 14,.string tx,.int .i64 kk,.bool bb,.int .i64 nn,.string t2,.string u2,.slice a1 a2 a3,.bool f,.slice aa argn ca,.slice ap plan cp,.slice am mt cm,.slice ag gp cg] 43)).alloc (.cells #[.int .i64 0,.bool false,.int .i64 0,.string ⟨#[]⟩,.string ⟨#[]⟩,.slice none 0 0] 38)):=((Below.refl _ _).alloc (Nat.le_refl _) _).alloc (by rw[World.size_alloc];omega) _
  have x0:=hq0.cell 0 rfl
  replace hq1:=Hd hq1
  replace hal:=Hd hal
  clear hq0
  go_enter Tryz.func36,Tryz.ntmps36
  go_wp2
  exact bodyPost_ret (v:=.tuple #[.agg #[.int .i64 0,.bool false,.int .i64 0,.string ⟨#[]⟩,.string ⟨#[]⟩,.slice none 0 0],.int .i64 0,.bool false]) (res3 rfl _ _ (w.heap.size+1) 38 _ (0,0) _ _ _ rfl rfl rfl hq1.out.eq Tryz.underlying38 rfl infoV6) rfl ⟨rfl,hal.out⟩
end Go.Proofs.YtcaeipdgbaligaaGreatDoor.ex
