/- The wakes' expression in both languages. -/
import Derived.Test.YtcaeipdgbaligaaGreatDoorXWkB
set_option linter.unusedSimpArgs false
set_option linter.unusedVariables false
set_option maxHeartbeats 4000000
namespace Go.Proofs.YtcaeipdgbaligaaGreatDoor.ex
open Go.ChangeShapes Go.WideShapes Go.ChangeAt Go.RowKit kit dec val tab logic
open hyp (RowA TextsA textsV textsV_length news_one own_row)
set_option maxRecDepth 100000
def SgE(er:Int)(w:World)(e:Ending)(w':World):Prop:=∃k b n t x ao m cap,e=.returned (.tuple #[agg6 k b n t x (.slice ao m cap),.int .i64 er,.bool true])∧Below w.heap.size w w'
theorem sing_logicG(tx:ByteArray)(kk:Int)(bb:Bool)(nn:Int)(t2 u2:ByteArray)(a1:Option Addr)(a2 a3:Nat)(f:Bool)(aa:Option Addr)(argn ca:Nat)(ap:Option Addr)(plan cp:Nat)(am:Option Addr)(mt cm:Nat)(ag:Option Addr)(gp cg:Nat)(w:World)(eb:Nat)(R:V→Prop)(cX:∀W,Below w.heap.size w W→Calls Tryz.prog 56 #[.pointer (some ⟨eb,0,none⟩),.agg #[.int .i64 6,.string tx,.int .i64 kk,.bool bb,.int .i64 nn,.string t2,.string u2,.slice a1 a2 a3,.bool f,.slice aa argn ca,.slice ap plan cp,.slice am mt cm,.slice ag gp cg]] W (EvG R W)):
 Calls Tryz.prog 36 #[.pointer (some ⟨eb,0,none⟩),.agg #[.int .i64 6,.string tx,.int .i64 kk,.bool bb,.int .i64 nn,.string t2,.string u2,.slice a1 a2 a3,.bool f,.slice aa argn ca,.slice ap plan cp,.slice am mt cm,.slice ag gp cg]] w (SgG R w):=by
 have hq0:=(Blk.new w #[.int .i64 6,.string tx,.int .i64 kk,.bool bb,.int .i64 nn,.string t2,.string u2,.slice a1 a2 a3,.bool f,.slice aa argn ca,.slice ap plan cp,.slice am mt cm,.slice ag gp cg] 43).alloc (.cells #[.int .i64 0,.bool false,.int .i64 0,.string ⟨#[]⟩,.string ⟨#[]⟩,.slice none 0 0] 38)
 have hq1:=Blk.new (w.alloc (.cells #[.int .i64 6,.string tx,.int .i64 kk,.bool bb,.int .i64 nn,.string t2,.string u2,.slice a1 a2 a3,.bool f,.slice aa argn ca,.slice ap plan cp,.slice am mt cm,.slice ag gp cg] 43)) #[.int .i64 0,.bool false,.int .i64 0,.string ⟨#[]⟩,.string ⟨#[]⟩,.slice none 0 0] 38
 rw[World.size_alloc]at hq1
 have hal:Below w.heap.size w ((w.alloc (.cells #[.int .i64 6,.string tx,.int .i64 kk,.bool bb,.int .i64 nn,.string t2,.string u2,.slice a1 a2 a3,.bool f,.slice aa argn ca,.slice ap plan cp,.slice am mt cm,.slice ag gp cg] 43)).alloc (.cells #[.int .i64 0,.bool false,.int .i64 0,.string ⟨#[]⟩,.string ⟨#[]⟩,.slice none 0 0] 38)):=((Below.refl _ _).alloc (Nat.le_refl _) _).alloc (by rw[World.size_alloc];omega) _
 have hsz:((w.alloc (.cells #[.int .i64 6,.string tx,.int .i64 kk,.bool bb,.int .i64 nn,.string t2,.string u2,.slice a1 a2 a3,.bool f,.slice aa argn ca,.slice ap plan cp,.slice am mt cm,.slice ag gp cg] 43)).alloc (.cells #[.int .i64 0,.bool false,.int .i64 0,.string ⟨#[]⟩,.string ⟨#[]⟩,.slice none 0 0] 38)).heap.size=w.heap.size+2:=by simp only[World.size_alloc]
 have cC:=Hd (cX _ hal)
 have t0:=hq0.cell 0 rfl
 have t1:=hq0.cell 1 rfl
 have t2a:=hq0.cell 2 rfl
 have t3:=hq0.cell 3 rfl
 have t4:=hq0.cell 4 rfl
 have t5:=hq0.cell 5 rfl
 have t6:=hq0.cell 6 rfl
 have t7:=hq0.cell 7 rfl
 have t8:=hq0.cell 8 rfl
 have t9:=hq0.cell 9 rfl
 have t10:=hq0.cell 10 rfl
 have t11:=hq0.cell 11 rfl
 have t12:=hq0.cell 12 rfl
 replace hq0:=Hd hq0
 replace hq1:=Hd hq1
 replace hal:=Hd hal
 replace hsz:=Hd hsz
 clear cX
 go_enter Tryz.func36,Tryz.ntmps36
 go_wp2_with fail
 refine cC.out.mono ?_
 rintro e w3 ⟨k,b,n,t,x,ao,cap,l,rfl,hb3,hl3,hok3,hm3⟩
 unfold agg6
 rw[hsz.out]at hl3
 have hq13:Blk w3 (w.heap.size+1) #[.int .i64 0,.bool false,.int .i64 0,.string ⟨#[]⟩,.string ⟨#[]⟩,.slice none 0 0] 38:=(hb3.block _ hq1.out.lt).trans hq1.out
 have hB3:=hal.out.trans (hb3.mono hal.out.size)
 clear t0 t1 t2a t3 t4 t5 t6 t7 t8 t9 t10 t11 t12
 have v0:=hq13.cell 0 rfl
 have v1:=hq13.cell 1 rfl
 have v2:=hq13.cell 2 rfl
 have v3:=hq13.cell 3 rfl
 have v4:=hq13.cell 4 rfl
 have v5:=hq13.cell 5 rfl
 have f1:=hq13.free
 have hfin0:Hid (Blk ((((((w3.setCell ⟨w.heap.size+1,0,none⟩ (.int .i64 k)).setCell ⟨w.heap.size+1,1,none⟩ (.bool b)).setCell ⟨w.heap.size+1,2,none⟩ (.int .i64 n)).setCell ⟨w.heap.size+1,3,none⟩ (.string t)).setCell ⟨w.heap.size+1,4,none⟩ (.string x)).setCell ⟨w.heap.size+1,5,none⟩ (.slice ao l.length cap)) (w.heap.size+1) #[.int .i64 k,.bool b,.int .i64 n,.string t,.string x,.slice ao l.length cap] 38):=Hd (Blk.set6 hq13 (.int .i64 k) (.bool b) (.int .i64 n) (.string t) (.string x) (.slice ao l.length cap))
 have hbf0:Hid (Below w.heap.size w ((((((w3.setCell ⟨w.heap.size+1,0,none⟩ (.int .i64 k)).setCell ⟨w.heap.size+1,1,none⟩ (.bool b)).setCell ⟨w.heap.size+1,2,none⟩ (.int .i64 n)).setCell ⟨w.heap.size+1,3,none⟩ (.string t)).setCell ⟨w.heap.size+1,4,none⟩ (.string x)).setCell ⟨w.heap.size+1,5,none⟩ (.slice ao l.length cap))):=Hd (Below.set6 hB3 (b:=w.heap.size+1) (Nat.le_succ _) (.int .i64 k) (.bool b) (.int .i64 n) (.string t) (.string x) (.slice ao l.length cap))
 have hlf0:Hid (LF ((((((w3.setCell ⟨w.heap.size+1,0,none⟩ (.int .i64 k)).setCell ⟨w.heap.size+1,1,none⟩ (.bool b)).setCell ⟨w.heap.size+1,2,none⟩ (.int .i64 n)).setCell ⟨w.heap.size+1,3,none⟩ (.string t)).setCell ⟨w.heap.size+1,4,none⟩ (.string x)).setCell ⟨w.heap.size+1,5,none⟩ (.slice ao l.length cap)) 1048576 (Fr (w.heap.size+2) w3) (.slice ao l.length cap) l):=Hd (hl3.set6 (w.heap.size+1) (fun h=>by have:=h.1;omega) (.int .i64 k) (.bool b) (.int .i64 n) (.string t) (.string x) (.slice ao l.length cap))
 have hsz0:Hid (((((((w3.setCell ⟨w.heap.size+1,0,none⟩ (.int .i64 k)).setCell ⟨w.heap.size+1,1,none⟩ (.bool b)).setCell ⟨w.heap.size+1,2,none⟩ (.int .i64 n)).setCell ⟨w.heap.size+1,3,none⟩ (.string t)).setCell ⟨w.heap.size+1,4,none⟩ (.string x)).setCell ⟨w.heap.size+1,5,none⟩ (.slice ao l.length cap)).heap.size=w3.heap.size):=Hd (by simp only[World.setCell,Array.size_modify])
 replace hok3:=Hd hok3
 replace hm3:=Hd hm3
 clear cC hb3 hq1 hq0 hl3 hB3 hq13
 go_upto_region 26 with fail
 clear v0 v1 v2 v3 v4 v5 f1
 generalize ((((((w3.setCell ⟨w.heap.size+1,0,none⟩ (.int .i64 k)).setCell ⟨w.heap.size+1,1,none⟩ (.bool b)).setCell ⟨w.heap.size+1,2,none⟩ (.int .i64 n)).setCell ⟨w.heap.size+1,3,none⟩ (.string t)).setCell ⟨w.heap.size+1,4,none⟩ (.string x)).setCell ⟨w.heap.size+1,5,none⟩ (.slice ao l.length cap))=w4 at *
 have hq4:=hfin0.out
 have v0:=hq4.cell 0 rfl
 have v1:=hq4.cell 1 rfl
 have v2:=hq4.cell 2 rfl
 have v3:=hq4.cell 3 rfl
 have v4:=hq4.cell 4 rfl
 have v5:=hq4.cell 5 rfl
 have f1:=hq4.free
 clear hq4
 go_wp2
 have hfin:=Blk.set6 hfin0.out (.int .i64 k) (.bool b) (.int .i64 n) (.string t) (.string x) (.slice ao l.length cap)
 have hbf:=Below.set6 hbf0.out (b:=w.heap.size+1) (Nat.le_succ _) (.int .i64 k) (.bool b) (.int .i64 n) (.string t) (.string x) (.slice ao l.length cap)
 have hlf:=hlf0.out.set6 (w.heap.size+1) (fun h=>by have:=h.1;omega) (.int .i64 k) (.bool b) (.int .i64 n) (.string t) (.string x) (.slice ao l.length cap)
 exact bodyPost_ret (v:=.tuple #[agg6 k b n t x (.slice ao l.length cap),.int .i64 0,.bool true]) (res3 rfl _ _ (w.heap.size+1) 38 _ (0,0) _ _ _ rfl rfl rfl hfin.eq Tryz.underlying38 rfl infoV6) rfl ⟨k,b,n,t,x,ao,cap,l,rfl,hbf,hlf.mono fun c hc=>⟨by have:=hc.1;omega,by have:=hc.2;have:=hsz0.out;simp only[World.setCell,Array.size_modify]at this ⊢;omega⟩,hok3.out,hm3.out⟩
theorem sing_logicE(tx:ByteArray)(kk:Int)(bb:Bool)(nn:Int)(t2 u2:ByteArray)(a1:Option Addr)(a2 a3:Nat)(f:Bool)(aa:Option Addr)(argn ca:Nat)(ap:Option Addr)(plan cp:Nat)(am:Option Addr)(mt cm:Nat)(ag:Option Addr)(gp cg:Nat)(w:World)(eb:Nat)(er:Int)(cX:∀W,Below w.heap.size w W→Calls Tryz.prog 56 #[.pointer (some ⟨eb,0,none⟩),.agg #[.int .i64 6,.string tx,.int .i64 kk,.bool bb,.int .i64 nn,.string t2,.string u2,.slice a1 a2 a3,.bool f,.slice aa argn ca,.slice ap plan cp,.slice am mt cm,.slice ag gp cg]] W (EvE er W)):
 Calls Tryz.prog 36 #[.pointer (some ⟨eb,0,none⟩),.agg #[.int .i64 6,.string tx,.int .i64 kk,.bool bb,.int .i64 nn,.string t2,.string u2,.slice a1 a2 a3,.bool f,.slice aa argn ca,.slice ap plan cp,.slice am mt cm,.slice ag gp cg]] w (SgE er w):=by
 have hq0:=(Blk.new w #[.int .i64 6,.string tx,.int .i64 kk,.bool bb,.int .i64 nn,.string t2,.string u2,.slice a1 a2 a3,.bool f,.slice aa argn ca,.slice ap plan cp,.slice am mt cm,.slice ag gp cg] 43).alloc (.cells #[.int .i64 0,.bool false,.int .i64 0,.string ⟨#[]⟩,.string ⟨#[]⟩,.slice none 0 0] 38)
 have hq1:=Blk.new (w.alloc (.cells #[.int .i64 6,.string tx,.int .i64 kk,.bool bb,.int .i64 nn,.string t2,.string u2,.slice a1 a2 a3,.bool f,.slice aa argn ca,.slice ap plan cp,.slice am mt cm,.slice ag gp cg] 43)) #[.int .i64 0,.bool false,.int .i64 0,.string ⟨#[]⟩,.string ⟨#[]⟩,.slice none 0 0] 38
 rw[World.size_alloc]at hq1
 have hal:Below w.heap.size w ((w.alloc (.cells #[.int .i64 6,.string tx,.int .i64 kk,.bool bb,.int .i64 nn,.string t2,.string u2,.slice a1 a2 a3,.bool f,.slice aa argn ca,.slice ap plan cp,.slice am mt cm,.slice ag gp cg] 43)).alloc (.cells #[.int .i64 0,.bool false,.int .i64 0,.string ⟨#[]⟩,.string ⟨#[]⟩,.slice none 0 0] 38)):=((Below.refl _ _).alloc (Nat.le_refl _) _).alloc (by rw[World.size_alloc];omega) _
 have hsz:((w.alloc (.cells #[.int .i64 6,.string tx,.int .i64 kk,.bool bb,.int .i64 nn,.string t2,.string u2,.slice a1 a2 a3,.bool f,.slice aa argn ca,.slice ap plan cp,.slice am mt cm,.slice ag gp cg] 43)).alloc (.cells #[.int .i64 0,.bool false,.int .i64 0,.string ⟨#[]⟩,.string ⟨#[]⟩,.slice none 0 0] 38)).heap.size=w.heap.size+2:=by simp only[World.size_alloc]
 have cC:=Hd (cX _ hal)
 have t0:=hq0.cell 0 rfl
 have t1:=hq0.cell 1 rfl
 have t2a:=hq0.cell 2 rfl
 have t3:=hq0.cell 3 rfl
 have t4:=hq0.cell 4 rfl
 have t5:=hq0.cell 5 rfl
 have t6:=hq0.cell 6 rfl
 have t7:=hq0.cell 7 rfl
 have t8:=hq0.cell 8 rfl
 have t9:=hq0.cell 9 rfl
 have t10:=hq0.cell 10 rfl
 have t11:=hq0.cell 11 rfl
 have t12:=hq0.cell 12 rfl
 replace hq0:=Hd hq0
 replace hq1:=Hd hq1
 replace hal:=Hd hal
 replace hsz:=Hd hsz
 clear cX
 go_enter Tryz.func36,Tryz.ntmps36
 go_wp2_with fail
 refine cC.out.mono ?_
 rintro e w3 ⟨k,b,n,t,x,ao,m,cap,rfl,hb3⟩
 unfold agg6
 have hq13:Blk w3 (w.heap.size+1) #[.int .i64 0,.bool false,.int .i64 0,.string ⟨#[]⟩,.string ⟨#[]⟩,.slice none 0 0] 38:=(hb3.block _ hq1.out.lt).trans hq1.out
 have hB3:=hal.out.trans (hb3.mono hal.out.size)
 clear t0 t1 t2a t3 t4 t5 t6 t7 t8 t9 t10 t11 t12
 have v0:=hq13.cell 0 rfl
 have v1:=hq13.cell 1 rfl
 have v2:=hq13.cell 2 rfl
 have v3:=hq13.cell 3 rfl
 have v4:=hq13.cell 4 rfl
 have v5:=hq13.cell 5 rfl
 have f1:=hq13.free
 have hfin0:Hid (Blk ((((((w3.setCell ⟨w.heap.size+1,0,none⟩ (.int .i64 k)).setCell ⟨w.heap.size+1,1,none⟩ (.bool b)).setCell ⟨w.heap.size+1,2,none⟩ (.int .i64 n)).setCell ⟨w.heap.size+1,3,none⟩ (.string t)).setCell ⟨w.heap.size+1,4,none⟩ (.string x)).setCell ⟨w.heap.size+1,5,none⟩ (.slice ao m cap)) (w.heap.size+1) #[.int .i64 k,.bool b,.int .i64 n,.string t,.string x,.slice ao m cap] 38):=Hd (Blk.set6 hq13 (.int .i64 k) (.bool b) (.int .i64 n) (.string t) (.string x) (.slice ao m cap))
 have hbf0:Hid (Below w.heap.size w ((((((w3.setCell ⟨w.heap.size+1,0,none⟩ (.int .i64 k)).setCell ⟨w.heap.size+1,1,none⟩ (.bool b)).setCell ⟨w.heap.size+1,2,none⟩ (.int .i64 n)).setCell ⟨w.heap.size+1,3,none⟩ (.string t)).setCell ⟨w.heap.size+1,4,none⟩ (.string x)).setCell ⟨w.heap.size+1,5,none⟩ (.slice ao m cap))):=Hd (Below.set6 hB3 (b:=w.heap.size+1) (Nat.le_succ _) (.int .i64 k) (.bool b) (.int .i64 n) (.string t) (.string x) (.slice ao m cap))
 clear cC hb3 hq1 hq0 hB3 hq13
 go_upto_region 26 with fail
 clear v0 v1 v2 v3 v4 v5 f1
 generalize ((((((w3.setCell ⟨w.heap.size+1,0,none⟩ (.int .i64 k)).setCell ⟨w.heap.size+1,1,none⟩ (.bool b)).setCell ⟨w.heap.size+1,2,none⟩ (.int .i64 n)).setCell ⟨w.heap.size+1,3,none⟩ (.string t)).setCell ⟨w.heap.size+1,4,none⟩ (.string x)).setCell ⟨w.heap.size+1,5,none⟩ (.slice ao m cap))=w4 at *
 have hq4:=hfin0.out
 have v0:=hq4.cell 0 rfl
 have v1:=hq4.cell 1 rfl
 have v2:=hq4.cell 2 rfl
 have v3:=hq4.cell 3 rfl
 have v4:=hq4.cell 4 rfl
 have v5:=hq4.cell 5 rfl
 have f1:=hq4.free
 clear hq4
 go_wp2
 have hfin:=Blk.set6 hfin0.out (.int .i64 k) (.bool b) (.int .i64 n) (.string t) (.string x) (.slice ao m cap)
 have hbf:=Below.set6 hbf0.out (b:=w.heap.size+1) (Nat.le_succ _) (.int .i64 k) (.bool b) (.int .i64 n) (.string t) (.string x) (.slice ao m cap)
 exact bodyPost_ret (v:=.tuple #[agg6 k b n t x (.slice ao m cap),.int .i64 er,.bool true]) (res3 rfl _ _ (w.heap.size+1) 38 _ (0,0) _ _ _ rfl rfl rfl hfin.eq Tryz.underlying38 rfl infoV6) rfl ⟨k,b,n,t,x,ao,m,cap,rfl,hbf⟩
theorem value_isE(op:Int)(tx:ByteArray)(kk:Int)(bb:Bool)(nn:Int)(t2 u2:ByteArray)(a1:Option Addr)(a2 a3:Nat)(f:Bool)(aa:Option Addr)(argn ca:Nat)(ap:Option Addr)(plan cp:Nat)(am:Option Addr)(mt cm:Nat)(ag:Option Addr)(gp cg:Nat)(w:World)(eb:Nat)(er:Int)(cS:∀W,Below w.heap.size w W→Calls Tryz.prog 36 #[.pointer (some ⟨eb,0,none⟩),.agg #[.int .i64 op,.string tx,.int .i64 kk,.bool bb,.int .i64 nn,.string t2,.string u2,.slice a1 a2 a3,.bool f,.slice aa argn ca,.slice ap plan cp,.slice am mt cm,.slice ag gp cg]] W (SgE er W)):
 Calls Tryz.prog 22 #[.pointer (some ⟨eb,0,none⟩),.agg #[.int .i64 op,.string tx,.int .i64 kk,.bool bb,.int .i64 nn,.string t2,.string u2,.slice a1 a2 a3,.bool f,.slice aa argn ca,.slice ap plan cp,.slice am mt cm,.slice ag gp cg]] w (EvE er w):=by
 have hq0:=(Blk.new w #[.int .i64 op,.string tx,.int .i64 kk,.bool bb,.int .i64 nn,.string t2,.string u2,.slice a1 a2 a3,.bool f,.slice aa argn ca,.slice ap plan cp,.slice am mt cm,.slice ag gp cg] 43).alloc (.cells #[.int .i64 0,.bool false,.int .i64 0,.string ⟨#[]⟩,.string ⟨#[]⟩,.slice none 0 0] 38)
 have hq1:=Blk.new (w.alloc (.cells #[.int .i64 op,.string tx,.int .i64 kk,.bool bb,.int .i64 nn,.string t2,.string u2,.slice a1 a2 a3,.bool f,.slice aa argn ca,.slice ap plan cp,.slice am mt cm,.slice ag gp cg] 43)) #[.int .i64 0,.bool false,.int .i64 0,.string ⟨#[]⟩,.string ⟨#[]⟩,.slice none 0 0] 38
 rw[World.size_alloc]at hq1
 have hal:Below w.heap.size w ((w.alloc (.cells #[.int .i64 op,.string tx,.int .i64 kk,.bool bb,.int .i64 nn,.string t2,.string u2,.slice a1 a2 a3,.bool f,.slice aa argn ca,.slice ap plan cp,.slice am mt cm,.slice ag gp cg] 43)).alloc (.cells #[.int .i64 0,.bool false,.int .i64 0,.string ⟨#[]⟩,.string ⟨#[]⟩,.slice none 0 0] 38)):=((Below.refl _ _).alloc (Nat.le_refl _) _).alloc (by rw[World.size_alloc];omega) _
 have hsz:((w.alloc (.cells #[.int .i64 op,.string tx,.int .i64 kk,.bool bb,.int .i64 nn,.string t2,.string u2,.slice a1 a2 a3,.bool f,.slice aa argn ca,.slice ap plan cp,.slice am mt cm,.slice ag gp cg] 43)).alloc (.cells #[.int .i64 0,.bool false,.int .i64 0,.string ⟨#[]⟩,.string ⟨#[]⟩,.slice none 0 0] 38)).heap.size=w.heap.size+2:=by simp only[World.size_alloc]
 have cC:=Hd (cS _ hal)
 have t0:=hq0.cell 0 rfl
 have t1:=hq0.cell 1 rfl
 have t2a:=hq0.cell 2 rfl
 have t3:=hq0.cell 3 rfl
 have t4:=hq0.cell 4 rfl
 have t5:=hq0.cell 5 rfl
 have t6:=hq0.cell 6 rfl
 have t7:=hq0.cell 7 rfl
 have t8:=hq0.cell 8 rfl
 have t9:=hq0.cell 9 rfl
 have t10:=hq0.cell 10 rfl
 have t11:=hq0.cell 11 rfl
 have t12:=hq0.cell 12 rfl
 replace hq0:=Hd hq0
 replace hq1:=Hd hq1
 replace hal:=Hd hal
 replace hsz:=Hd hsz
 clear cS
 go_enter Tryz.func22,Tryz.ntmps22
 go_wp2_with fail
 refine cC.out.mono ?_
 rintro e w3 ⟨k,b,n,t,x,ao,m,cap,rfl,hb3⟩
 unfold agg6
 have hal6:Below w3.heap.size w3 (w3.alloc (.cells #[.int .i64 k,.bool b,.int .i64 n,.string t,.string x,.slice ao m cap] 38)):=(Below.refl _ _).alloc (Nat.le_refl _) _
 have hq13:Blk w3 (w.heap.size+1) #[.int .i64 0,.bool false,.int .i64 0,.string ⟨#[]⟩,.string ⟨#[]⟩,.slice none 0 0] 38:=(hb3.block _ hq1.out.lt).trans hq1.out
 have hq14:=hq13.alloc (.cells #[.int .i64 k,.bool b,.int .i64 n,.string t,.string x,.slice ao m cap] 38)
 have hq6:=Blk.new w3 #[.int .i64 k,.bool b,.int .i64 n,.string t,.string x,.slice ao m cap] 38
 have hB3:=hal.out.trans (hb3.mono hal.out.size)
 have hB4:=hB3.trans (hal6.mono hB3.size)
 clear t0 t1 t2a t3 t4 t5 t6 t7 t8 t9 t10 t11 t12
 have u0:=hq6.cell 0 rfl
 have u1:=hq6.cell 1 rfl
 have u2a:=hq6.cell 2 rfl
 have u3:=hq6.cell 3 rfl
 have u4:=hq6.cell 4 rfl
 have u5:=hq6.cell 5 rfl
 have v0:=hq14.cell 0 rfl
 have v1:=hq14.cell 1 rfl
 have v2:=hq14.cell 2 rfl
 have v3:=hq14.cell 3 rfl
 have v4:=hq14.cell 4 rfl
 have v5:=hq14.cell 5 rfl
 have f1:=hq14.free
 replace hq14:=Hd hq14
 replace hB4:=Hd hB4
 clear cC hb3 hq1 hq0 hB3 hq13 hal6 hq6
 go_wp2
 have hfin:=Blk.set6 hq14.out (.int .i64 k) (.bool b) (.int .i64 n) (.string t) (.string x) (.slice ao m cap)
 have hbf:=Below.set6 hB4.out (b:=w.heap.size+1) (Nat.le_succ _) (.int .i64 k) (.bool b) (.int .i64 n) (.string t) (.string x) (.slice ao m cap)
 exact bodyPost_ret (v:=.tuple #[agg6 k b n t x (.slice ao m cap),.int .i64 er]) (res2 rfl _ _ (w.heap.size+1) 38 _ (0,0) _ _ rfl rfl hfin.eq Tryz.underlying38 rfl infoV6) rfl ⟨k,b,n,t,x,ao,m,cap,rfl,hbf⟩
def badX:X:=twoX 9 (twoX 20 (litX (numV1 1)) (litX (numV1 0))) (litX (numV1 1))
def wakeX:X:=twoX 6 (litX (boolV1 false)) badX
theorem evBad(w:World)(hE:Env w)(eb:Nat)(lang:Int)(iv:Value)(hlang:lang=0∨lang=1)(hbe:Blk w eb #[.int .i64 lang,iv] 68)(v:Value)(hv:XV w 1048576 v badX):
 Calls Tryz.prog 22 #[.pointer (some ⟨eb,0,none⟩),v] w (EvE 3 w):=
 evFst w eb 9 _ _ (by decide) 3 (by decide) v hv fun W u hW hu=>evDiv W (hE.below hW) eb lang iv hlang ((hW.block _ hbe.lt).trans hbe) u hu
theorem evWakeC(w:World)(hE:Env w)(eb:Nat)(iv:Value)(hbe:Blk w eb #[.int .i64 0,iv] 68)(v:Value)(hv:XV w 1048576 v wakeX):
 Calls Tryz.prog 22 #[.pointer (some ⟨eb,0,none⟩),v] w (EvE 3 w):=by
 obtain⟨tx,kk,bb,nn,t2,u2,a1,a2,a3,f,aa,ca,ap,plan,cp,am,mt,cm,ag,gp,cg,rfl,hs⟩:=two_parts hv
 unfold c13
 refine value_isE 6 tx kk bb nn t2 u2 a1 a2 a3 f aa 2 ca ap plan cp am mt cm ag gp cg w eb 3 fun W hW=>?_
 refine sing_logicE tx kk bb nn t2 u2 a1 a2 a3 f aa 2 ca ap plan cp am mt cm ag gp cg W eb 3 fun V hV=>?_
 have hWV:=hW.trans (hV.mono hW.size)
 refine logical_err tx kk bb nn t2 u2 a1 a2 a3 f aa 2 ca ap plan cp am mt cm ag gp cg V eb iv ((hWV.block _ hbe.lt).trans hbe) 3 (by decide) fun U hU=>?_
 have hWU:=hWV.trans (hU.mono hWV.size)
 refine(values_gen [litX (boolV1 false),badX] (fun _ _=>True) 1 3 (by decide) U eb aa ca (XS.stay hWU hs) (fun j hj hj1 T u hT hu=>?_) (fun hj T u hT hu=>?_)).mono ?_
 ·obtain rfl:j=0:=by omega
  refine(evLit T eb u 1 false 0 hu).mono ?_
  rintro e w' ⟨k,b,n,t,x,ao,cap,l,rfl,h1,h2,h3,h4⟩
  exact⟨_,_,_,_,_,_,_,_,rfl,h1,h2,h3,trivial⟩
 ·exact evBad T (hE.below (hWU.trans (hT.mono hWU.size))) eb 0 iv (.inl rfl) (((hWU.trans (hT.mono hWU.size)).block _ hbe.lt).trans hbe) u hu
 ·rintro e w' (⟨-,h1,h2⟩|⟨h,-⟩)
  ·exact⟨h1,h2⟩
  ·exact absurd h (by simp)
theorem evWakeS(w:World)(hE:Env w)(eb:Nat)(iv:Value)(hbe:Blk w eb #[.int .i64 1,iv] 68)(v:Value)(hv:XV w 1048576 v wakeX):
 Calls Tryz.prog 22 #[.pointer (some ⟨eb,0,none⟩),v] w (EvG (fun u=>u=boolV1 false) w):=by
 obtain⟨tx,kk,bb,nn,t2,u2,a1,a2,a3,f,aa,ca,ap,plan,cp,am,mt,cm,ag,gp,cg,rfl,hs⟩:=two_parts hv
 unfold c13
 refine value_isG 6 tx kk bb nn t2 u2 a1 a2 a3 f aa 2 ca ap plan cp am mt cm ag gp cg w eb _ fun W hW=>?_
 refine sing_logicG tx kk bb nn t2 u2 a1 a2 a3 f aa 2 ca ap plan cp am mt cm ag gp cg W eb _ fun V hV=>?_
 have hWV:=hW.trans (hV.mono hW.size)
 refine logicalS tx kk bb nn t2 u2 a1 a2 a3 f aa ca ap plan cp am mt cm ag gp cg (litX (boolV1 false)) badX V (hE.below hWV) eb iv ((hWV.block _ hbe.lt).trans hbe) (XS.stay hWV hs) (fun T u hT hu=>?_) (fun T u hT hu=>?_)
 ·exact evLit T eb u 1 false 0 hu
 ·exact evBad T (hE.below (hWV.trans (hT.mono hWV.size))) eb 1 iv (.inr rfl) (((hWV.trans (hT.mono hWV.size)).block _ hbe.lt).trans hbe) u hu
end Go.Proofs.YtcaeipdgbaligaaGreatDoor.ex
