/- What is not made of its arguments' values alone, evaluated in C, where nothing errs. -/
import Derived.Test.YtcaeipdgbaligaaGreatDoorXGen
set_option linter.unusedSimpArgs false
set_option linter.unusedVariables false
set_option maxHeartbeats 8000000
namespace Go.Proofs.YtcaeipdgbaligaaGreatDoor.ex
open Go.ChangeShapes Go.WideShapes Go.ChangeAt Go.RowKit kit dec val tab logic
open hyp (RowA TextsA textsV textsV_length news_one own_row)
set_option maxRecDepth 100000
def SgP(bx:Bool)(w:World)(e:Ending)(w':World):Prop:=∃k b n t x ao cap l,e=.returned (.tuple #[agg6 k b n t x (.slice ao l.length cap),.int .i64 0,.bool true])∧Below w.heap.size w w'∧LF w' 1048576 (Fr w.heap.size w') (.slice ao l.length cap) l∧okV 1048576 (.mk k b n t x l)∧mayV (.mk k b n t x l)=true∧(bx=true→k=0∨k=1)
theorem res3{P:Program}{fn:Func}{p u z:Tmp}{ty:TypeId}(h:fn.results=#[.cell p ty,.tmp u,.tmp z])(tmps:Array Value)(w:World)(g:Nat)(t:TypeId)(cs:Array Value)(fr:Nat×Nat)(d:TypeDesc)(v v2:Value)(hv:tmps.getD u undef=v)(hv2:tmps.getD z undef=v2)
 (hp:tmps.getD p undef=.pointer (some ⟨g,0,none⟩))(hg:w.heap[g]? = some (.cells cs t fr))
 (hu:P.underlying ty=some d)(hd:(match d with|.struct _|.array _ _=>true|_=>false)=true)(hi:(P.info? ty).map (·.size)=some cs.size):
 (results fn tmps).run P w=.ok (.tuple #[.agg cs,v,v2]) w:=by
 subst hv hv2
 have e:(results fn tmps).run P w=((asAddr (tmps.getD p undef)).run P w).andThen fun a w₁=>((loadVar ty a).run P w₁).andThen fun v w₂=>.ok (.tuple #[v,tmps.getD u undef,tmps.getD z undef]) w₂:=by
  simp only[results,h]
  simp[Sem.run_bind,Result.andThen]
 rw[e,hp]
 simp only[asAddr,Sem.run_pure,Result.andThen_ok,run_loadVar_row w g t ty cs fr d hg hu hd hi]
def SgG(R:V→Prop)(w:World)(e:Ending)(w':World):Prop:=∃k b n t x ao cap l,e=.returned (.tuple #[agg6 k b n t x (.slice ao l.length cap),.int .i64 0,.bool true])∧Below w.heap.size w w'∧LF w' 1048576 (Fr w.heap.size w') (.slice ao l.length cap) l∧okV 1048576 (.mk k b n t x l)∧R (.mk k b n t x l)
theorem sing_litG(tx:ByteArray)(kk:Int)(bb:Bool)(nn:Int)(t2 u2:ByteArray)(a1:Option Addr)(a3:Nat)(l:List V)(f:Bool)(aa:Option Addr)(argn ca:Nat)(ap:Option Addr)(plan cp:Nat)(am:Option Addr)(mt cm:Nat)(ag:Option Addr)(gp cg:Nat)(w:World)(xv:Value)(hl:LA w 1048576 (.slice a1 l.length a3) l)(hok:okV 1048576 (.mk kk bb nn t2 u2 l)):
 Calls Tryz.prog 36 #[xv,.agg #[.int .i64 1,.string tx,.int .i64 kk,.bool bb,.int .i64 nn,.string t2,.string u2,.slice a1 l.length a3,.bool f,.slice aa argn ca,.slice ap plan cp,.slice am mt cm,.slice ag gp cg]] w (SgG (fun u=>u=.mk kk bb nn t2 u2 l) w):=by
 have hq0:=(Blk.new w #[.int .i64 1,.string tx,.int .i64 kk,.bool bb,.int .i64 nn,.string t2,.string u2,.slice a1 l.length a3,.bool f,.slice aa argn ca,.slice ap plan cp,.slice am mt cm,.slice ag gp cg] 43).alloc (.cells #[.int .i64 0,.bool false,.int .i64 0,.string ⟨#[]⟩,.string ⟨#[]⟩,.slice none 0 0] 38)
 have hq1:=Blk.new (w.alloc (.cells #[.int .i64 1,.string tx,.int .i64 kk,.bool bb,.int .i64 nn,.string t2,.string u2,.slice a1 l.length a3,.bool f,.slice aa argn ca,.slice ap plan cp,.slice am mt cm,.slice ag gp cg] 43)) #[.int .i64 0,.bool false,.int .i64 0,.string ⟨#[]⟩,.string ⟨#[]⟩,.slice none 0 0] 38
 rw[World.size_alloc]at hq1
 have hal:Below w.heap.size w ((w.alloc (.cells #[.int .i64 1,.string tx,.int .i64 kk,.bool bb,.int .i64 nn,.string t2,.string u2,.slice a1 l.length a3,.bool f,.slice aa argn ca,.slice ap plan cp,.slice am mt cm,.slice ag gp cg] 43)).alloc (.cells #[.int .i64 0,.bool false,.int .i64 0,.string ⟨#[]⟩,.string ⟨#[]⟩,.slice none 0 0] 38)):=((Below.refl _ _).alloc (Nat.le_refl _) _).alloc (by rw[World.size_alloc];omega) _
 have hsz:((w.alloc (.cells #[.int .i64 1,.string tx,.int .i64 kk,.bool bb,.int .i64 nn,.string t2,.string u2,.slice a1 l.length a3,.bool f,.slice aa argn ca,.slice ap plan cp,.slice am mt cm,.slice ag gp cg] 43)).alloc (.cells #[.int .i64 0,.bool false,.int .i64 0,.string ⟨#[]⟩,.string ⟨#[]⟩,.slice none 0 0] 38)).heap.size=w.heap.size+2:=by simp only[World.size_alloc]
 have cC:=xcopied_all 1048576 (by omega) (SizeOf.sizeOf l+1) _ kk bb nn t2 u2 _ l (Nat.lt_succ_self _) (hl.stay hal)
 unfold agg6 at cC
 have t0:=hq0.cell 0 rfl
 have t1:=hq0.cell 1 rfl
 have t2a:=hq0.cell 2 rfl
 have t3:=hq0.cell 3 rfl
 have t4:=hq0.cell 4 rfl
 have t5:=hq0.cell 5 rfl
 have t6:=hq0.cell 6 rfl
 have t7:=hq0.cell 7 rfl
 have t8:=hq0.cell 8 rfl
 have t9:=hq0.cell 9 rfl
 have t10:=hq0.cell 10 rfl
 have t11:=hq0.cell 11 rfl
 have t12:=hq0.cell 12 rfl
 replace hq0:=Hd hq0
 replace hq1:=Hd hq1
 replace hal:=Hd hal
 replace hsz:=Hd hsz
 replace cC:=Hd cC
 replace hl:=Hd hl
 replace hok:=Hd hok
 go_enter Tryz.func36,Tryz.ntmps36
 go_wp2_with fail
 refine cC.out.mono ?_
 rintro e w3 ⟨ao2,cap2,rfl,hb3,hl3⟩
 rw[hsz.out]at hl3
 have hq13:Blk w3 (w.heap.size+1) #[.int .i64 0,.bool false,.int .i64 0,.string ⟨#[]⟩,.string ⟨#[]⟩,.slice none 0 0] 38:=(hb3.block _ hq1.out.lt).trans hq1.out
 have hB3:=Hd (hal.out.trans (hb3.mono hal.out.size))
 clear t0 t1 t2a t3 t4 t5 t6 t7 t8 t9 t10 t11 t12
 have v0:=hq13.cell 0 rfl
 have v1:=hq13.cell 1 rfl
 have v2:=hq13.cell 2 rfl
 have v3:=hq13.cell 3 rfl
 have v4:=hq13.cell 4 rfl
 have v5:=hq13.cell 5 rfl
 have f1:=hq13.free
 replace hq13:=Hd hq13
 replace hl3:=Hd hl3
 clear cC hb3 hq1 hq0
 go_wp2
 have hfin:=Blk.set6 hq13.out (.int .i64 kk) (.bool bb) (.int .i64 nn) (.string t2) (.string u2) (.slice ao2 l.length cap2)
 have hbf:=Below.set6 hB3.out (b:=w.heap.size+1) (Nat.le_succ _) (.int .i64 kk) (.bool bb) (.int .i64 nn) (.string t2) (.string u2) (.slice ao2 l.length cap2)
 have hlf:=hl3.out.set6 (w.heap.size+1) (fun h=>by have:=h.1;omega) (.int .i64 kk) (.bool bb) (.int .i64 nn) (.string t2) (.string u2) (.slice ao2 l.length cap2)
 exact bodyPost_ret (v:=.tuple #[agg6 kk bb nn t2 u2 (.slice ao2 l.length cap2),.int .i64 0,.bool true]) (res3 rfl _ _ (w.heap.size+1) 38 _ (0,0) _ _ _ rfl rfl rfl hfin.eq Tryz.underlying38 rfl infoV6) rfl ⟨kk,bb,nn,t2,u2,ao2,cap2,l,rfl,hbf,hlf.mono fun b hb=>⟨by have:=hb.1;omega,by have:=hb.2;simpa only[World.setCell,Array.size_modify]using this⟩,hok.out,rfl⟩
theorem sing_lit(tx:ByteArray)(kk:Int)(bb:Bool)(nn:Int)(t2 u2:ByteArray)(a1:Option Addr)(a3:Nat)(l:List V)(f:Bool)(aa:Option Addr)(argn ca:Nat)(ap:Option Addr)(plan cp:Nat)(am:Option Addr)(mt cm:Nat)(ag:Option Addr)(gp cg:Nat)(w:World)(xv:Value)(hl:LA w 1048576 (.slice a1 l.length a3) l)(hok:okV 1048576 (.mk kk bb nn t2 u2 l))(hm:mayV (.mk kk bb nn t2 u2 l)=true)(bx:Bool)(hbx:bx=true→kk=0∨kk=1):
 Calls Tryz.prog 36 #[xv,.agg #[.int .i64 1,.string tx,.int .i64 kk,.bool bb,.int .i64 nn,.string t2,.string u2,.slice a1 l.length a3,.bool f,.slice aa argn ca,.slice ap plan cp,.slice am mt cm,.slice ag gp cg]] w (SgP bx w):=by
 refine(sing_litG tx kk bb nn t2 u2 a1 a3 l f aa argn ca ap plan cp am mt cm ag gp cg w xv hl hok).mono ?_
 rintro e w' ⟨k,b,n,t,x,ao,cap,l2,rfl,h1,h2,h3,h4⟩
 cases h4
 exact⟨_,_,_,_,_,_,_,_,rfl,h1,h2,h3,hm,hbx⟩
theorem known_var(p:Value)(W:World)(n:Nat)(hn:n=Tryz.prog.types.size+Made.depth):(method n 48 p "Var").run Tryz.prog W=.ok (251,p) W:=by
 subst hn
 kernel_rfl
theorem call_var(args:Array Value)(W:World):(callFunc 251 args).run Tryz.prog W=.ok (.enter 251 args) W:=by kernel_rfl
theorem sing_var(tx:ByteArray)(kk:Int)(bb:Bool)(nn:Int)(t2 u2:ByteArray)(a1:Option Addr)(a2 a3:Nat)(f:Bool)(aa:Option Addr)(argn ca:Nat)(ap:Option Addr)(plan cp:Nat)(am:Option Addr)(mt cm:Nat)(ag:Option Addr)(gp cg:Nat)(w:World)(eb ev:Nat)(ns:List ByteArray)(vs:List V)(hC:EvC w eb ev ns vs):
 Calls Tryz.prog 36 #[.pointer (some ⟨eb,0,none⟩),.agg #[.int .i64 2,.string tx,.int .i64 kk,.bool bb,.int .i64 nn,.string t2,.string u2,.slice a1 a2 a3,.bool f,.slice aa argn ca,.slice ap plan cp,.slice am mt cm,.slice ag gp cg]] w (SgP false w):=by
 have hq0:=(Blk.new w #[.int .i64 2,.string tx,.int .i64 kk,.bool bb,.int .i64 nn,.string t2,.string u2,.slice a1 a2 a3,.bool f,.slice aa argn ca,.slice ap plan cp,.slice am mt cm,.slice ag gp cg] 43).alloc (.cells #[.int .i64 0,.bool false,.int .i64 0,.string ⟨#[]⟩,.string ⟨#[]⟩,.slice none 0 0] 38)
 have hq1:=Blk.new (w.alloc (.cells #[.int .i64 2,.string tx,.int .i64 kk,.bool bb,.int .i64 nn,.string t2,.string u2,.slice a1 a2 a3,.bool f,.slice aa argn ca,.slice ap plan cp,.slice am mt cm,.slice ag gp cg] 43)) #[.int .i64 0,.bool false,.int .i64 0,.string ⟨#[]⟩,.string ⟨#[]⟩,.slice none 0 0] 38
 rw[World.size_alloc]at hq1
 have hal:Below w.heap.size w ((w.alloc (.cells #[.int .i64 2,.string tx,.int .i64 kk,.bool bb,.int .i64 nn,.string t2,.string u2,.slice a1 a2 a3,.bool f,.slice aa argn ca,.slice ap plan cp,.slice am mt cm,.slice ag gp cg] 43)).alloc (.cells #[.int .i64 0,.bool false,.int .i64 0,.string ⟨#[]⟩,.string ⟨#[]⟩,.slice none 0 0] 38)):=((Below.refl _ _).alloc (Nat.le_refl _) _).alloc (by rw[World.size_alloc];omega) _
 have hsz:((w.alloc (.cells #[.int .i64 2,.string tx,.int .i64 kk,.bool bb,.int .i64 nn,.string t2,.string u2,.slice a1 a2 a3,.bool f,.slice aa argn ca,.slice ap plan cp,.slice am mt cm,.slice ag gp cg] 43)).alloc (.cells #[.int .i64 0,.bool false,.int .i64 0,.string ⟨#[]⟩,.string ⟨#[]⟩,.slice none 0 0] 38)).drew.heap.size=w.heap.size+2:=by
  show((w.alloc (.cells #[.int .i64 2,.string tx,.int .i64 kk,.bool bb,.int .i64 nn,.string t2,.string u2,.slice a1 a2 a3,.bool f,.slice aa argn ca,.slice ap plan cp,.slice am mt cm,.slice ag gp cg] 43)).alloc (.cells #[.int .i64 0,.bool false,.int .i64 0,.string ⟨#[]⟩,.string ⟨#[]⟩,.slice none 0 0] 38)).heap.size=w.heap.size+2
  simp only[World.size_alloc]
 have hB0:Below w.heap.size w ((w.alloc (.cells #[.int .i64 2,.string tx,.int .i64 kk,.bool bb,.int .i64 nn,.string t2,.string u2,.slice a1 a2 a3,.bool f,.slice aa argn ca,.slice ap plan cp,.slice am mt cm,.slice ag gp cg] 43)).alloc (.cells #[.int .i64 0,.bool false,.int .i64 0,.string ⟨#[]⟩,.string ⟨#[]⟩,.slice none 0 0] 38)).drew:=Below_drewN 1 hal
 have hC0:=hC.stay hB0
 have x0:=hq0.cell 0 rfl
 have hS0:Blk ((w.alloc (.cells #[.int .i64 2,.string tx,.int .i64 kk,.bool bb,.int .i64 nn,.string t2,.string u2,.slice a1 a2 a3,.bool f,.slice aa argn ca,.slice ap plan cp,.slice am mt cm,.slice ag gp cg] 43)).alloc (.cells #[.int .i64 0,.bool false,.int .i64 0,.string ⟨#[]⟩,.string ⟨#[]⟩,.slice none 0 0] 38)).drew w.heap.size #[.int .i64 2,.string tx,.int .i64 kk,.bool bb,.int .i64 nn,.string t2,.string u2,.slice a1 a2 a3,.bool f,.slice aa argn ca,.slice ap plan cp,.slice am mt cm,.slice ag gp cg] 43∧Blk ((w.alloc (.cells #[.int .i64 2,.string tx,.int .i64 kk,.bool bb,.int .i64 nn,.string t2,.string u2,.slice a1 a2 a3,.bool f,.slice aa argn ca,.slice ap plan cp,.slice am mt cm,.slice ag gp cg] 43)).alloc (.cells #[.int .i64 0,.bool false,.int .i64 0,.string ⟨#[]⟩,.string ⟨#[]⟩,.slice none 0 0] 38)).drew eb #[.int .i64 0,.iface 48 (.agg #[.pointer (some ⟨ev,0,none⟩)])] 68:=⟨hq0,hC0.blk⟩
 have hq1d:Blk ((w.alloc (.cells #[.int .i64 2,.string tx,.int .i64 kk,.bool bb,.int .i64 nn,.string t2,.string u2,.slice a1 a2 a3,.bool f,.slice aa argn ca,.slice ap plan cp,.slice am mt cm,.slice ag gp cg] 43)).alloc (.cells #[.int .i64 0,.bool false,.int .i64 0,.string ⟨#[]⟩,.string ⟨#[]⟩,.slice none 0 0] 38)).drew (w.heap.size+1) #[.int .i64 0,.bool false,.int .i64 0,.string ⟨#[]⟩,.string ⟨#[]⟩,.slice none 0 0] 38:=hq1
 replace hC:=Hd hC
 replace hsz:=Hd hsz
 replace hB0:=Hd hB0
 replace hC0:=Hd hC0
 replace hq1d:=Hd hq1d
 clear hq0 hq1 hal
 go_enter Tryz.func36,Tryz.ntmps36
 go_upto_region 6 with fail
 clear x0
 refine wp_region_held_drew (S:=fun V=>Blk V w.heap.size #[.int .i64 2,.string tx,.int .i64 kk,.bool bb,.int .i64 nn,.string t2,.string u2,.slice a1 a2 a3,.bool f,.slice aa argn ca,.slice ap plan cp,.slice am mt cm,.slice ag gp cg] 43∧Blk V eb #[.int .i64 0,.iface 48 (.agg #[.pointer (some ⟨ev,0,none⟩)])] 68) (by kernel_rfl) hS0 (fun hS=>?_)
 generalize ((w.alloc (.cells #[.int .i64 2,.string tx,.int .i64 kk,.bool bb,.int .i64 nn,.string t2,.string u2,.slice a1 a2 a3,.bool f,.slice aa argn ca,.slice ap plan cp,.slice am mt cm,.slice ag gp cg] 43)).alloc (.cells #[.int .i64 0,.bool false,.int .i64 0,.string ⟨#[]⟩,.string ⟨#[]⟩,.slice none 0 0] 38)).drew=V0 at *
 refine tkS [0,1,2,3,4,5] ?_
 iterate 6
  refine tkC ?_ rfl (fun w' hS=>?_) hS ?_
  rotate_left
  ·
   have x1:=hS.1.cell 1 rfl;have e0:=hS.2.cell 0 rfl;have e1:=hS.2.cell 1 rfl
   go_simp
   try with_reducible rfl
 refine rdH 6 rfl (fun K hK=>?_)
 clear hS
 go_simp
 rw[known_var _ V0 _ (by kernel_rfl),Result.andThen_ok,call_var,Oper.upon_enter]
 refine(xvar_any V0 ev ns vs hC0.out.mem tx).mono ?_
 rintro e w2 ⟨k,b,n,t,x,ao,cap,l,rfl,hb2,hl2,hok2⟩
 go_wp2_with fail
 have hS2:Blk w2 w.heap.size #[.int .i64 2,.string tx,.int .i64 kk,.bool bb,.int .i64 nn,.string t2,.string u2,.slice a1 a2 a3,.bool f,.slice aa argn ca,.slice ap plan cp,.slice am mt cm,.slice ag gp cg] 43∧Blk w2 eb #[.int .i64 0,.iface 48 (.agg #[.pointer (some ⟨ev,0,none⟩)])] 68:=⟨(hb2.block _ hS0.1.lt).trans hS0.1,(hb2.block _ hS0.2.lt).trans hS0.2⟩
 refine hKo hK hS2 (fun hS=>?_)
 clear hK K
 have hB2:=Hd (hB0.out.trans (hb2.mono hB0.out.size))
 have hq2:Hid (Blk w2 (w.heap.size+1) #[.int .i64 0,.bool false,.int .i64 0,.string ⟨#[]⟩,.string ⟨#[]⟩,.slice none 0 0] 38):=Hd ((hb2.block _ hq1d.out.lt).trans hq1d.out)
 have cM:=xmay_any w2 (hC.out.stay hB2.out).env.env k b n t x ao cap l hl2 hok2
 have hs2:Hid (w.heap.size+2≤w2.heap.size):=Hd (by have:=hb2.size;have:=hsz.out;omega)
 clear hb2 hl2 hok2 hS0 hq1d hB0 hC0
 refine rdH 7 rfl (fun K hK=>?_)
 clear hS
 go_simp
 refine cM.mono ?_
 rintro e w3 ⟨k,b,n,t,x,ao,cap,l,rfl,hb3,hl3,hok3,hm3,-⟩
 go_wp2_with fail
 have hS3:Blk w3 w.heap.size #[.int .i64 2,.string tx,.int .i64 kk,.bool bb,.int .i64 nn,.string t2,.string u2,.slice a1 a2 a3,.bool f,.slice aa argn ca,.slice ap plan cp,.slice am mt cm,.slice ag gp cg] 43∧Blk w3 eb #[.int .i64 0,.iface 48 (.agg #[.pointer (some ⟨ev,0,none⟩)])] 68:=⟨(hb3.block _ hS2.1.lt).trans hS2.1,(hb3.block _ hS2.2.lt).trans hS2.2⟩
 refine hKo hK hS3 (fun hS=>?_)
 clear hK K
 have hq3:Blk w3 (w.heap.size+1) #[.int .i64 0,.bool false,.int .i64 0,.string ⟨#[]⟩,.string ⟨#[]⟩,.slice none 0 0] 38:=(hb3.block _ hq2.out.lt).trans hq2.out
 have hB3:=hB2.out.trans (hb3.mono hB2.out.size)
 clear hb3 cM hq2 hB2 hS2
 refine rdH 8 rfl (fun K hK=>?_)
 clear hS
 have hne:w.heap.size+1≠eb:=fun h=>by
  have h1:=hS3.2.eq
  rw[←h,hq3.eq]at h1
  cases h1
 have hq4:=Hd (hq3.setRow (cs':=#[.int .i64 k,.bool b,.int .i64 n,.string t,.string x,.slice ao l.length cap]))
 have hp4:=hS3.1.setRow_other (g:=w.heap.size+1) (cs':=#[.int .i64 k,.bool b,.int .i64 n,.string t,.string x,.slice ao l.length cap]) (by omega)
 have he4:=hS3.2.setRow_other (g:=w.heap.size+1) (cs':=#[.int .i64 k,.bool b,.int .i64 n,.string t,.string x,.slice ao l.length cap]) (fun h=>hne h.symm)
 have hB4:=Hd (setRow_under hB3 (g:=w.heap.size+1) (by omega) #[.int .i64 k,.bool b,.int .i64 n,.string t,.string x,.slice ao l.length cap])
 have hl4:Hid (LF (w3.setRow (w.heap.size+1) #[.int .i64 k,.bool b,.int .i64 n,.string t,.string x,.slice ao l.length cap]) 1048576 (Fr w2.heap.size w3) (.slice ao l.length cap) l):=Hd (hl3.stay fun c hS _=>_root_.Go.setRow_other w3 (w.heap.size+1) c _ (by have:=hS.1;have:=hs2.out;omega))
 rw[if_pos (by kernel_rfl)]
 unfold agg6
 refine wp_store_row 38 (.tmp 4) (.tmp 26) rfl (w.heap.size+1) #[.int .i64 k,.bool b,.int .i64 n,.string t,.string x,.slice ao l.length cap] rfl rfl 38 #[.int .i64 0,.bool false,.int .i64 0,.string ⟨#[]⟩,.string ⟨#[]⟩,.slice none 0 0] hq3.eq infoV6 rfl (by simp[Value.oneCell']) ?_
 refine hKo hK ⟨hp4,he4⟩ (fun hS=>?_)
 clear hK K hq3 hB3 hl3 hS3
 refine wpAnyH_done (by kernel_rfl) ?_ _
 clear hS
 have hs4:Hid ((w3.setRow (w.heap.size+1) #[.int .i64 k,.bool b,.int .i64 n,.string t,.string x,.slice ao l.length cap]).heap.size=w3.heap.size):=Hd (by simp)
 generalize w3.setRow (w.heap.size+1) #[.int .i64 k,.bool b,.int .i64 n,.string t,.string x,.slice ao l.length cap]=w4 at *
 have hq4o:=hq4.out
 have v0:=hq4o.cell 0 rfl
 have v1:=hq4o.cell 1 rfl
 have v2:=hq4o.cell 2 rfl
 have v3:=hq4o.cell 3 rfl
 have v4:=hq4o.cell 4 rfl
 have v5:=hq4o.cell 5 rfl
 have f1:=hq4o.free
 have e0:=he4.cell 0 rfl
 replace hok3:=Hd hok3
 replace hm3:=Hd hm3
 clear hq4o hp4 he4 hne
 have hkc:k=0∨(k==0)=false:=by
  by_cases h:k=0
  ·exact .inl h
  ·exact .inr (beq_eq_false_iff_ne.2 h)
 rcases hkc with rfl|hkc
 ·go_wp2
  have hfin:=Blk.set6 hq4.out (.int .i64 0) (.bool b) (.int .i64 n) (.string t) (.string x) (.slice ao l.length cap)
  have hbf:=Below.set6 hB4.out (b:=w.heap.size+1) (Nat.le_succ _) (.int .i64 0) (.bool b) (.int .i64 n) (.string t) (.string x) (.slice ao l.length cap)
  have hlf:=hl4.out.set6 (w.heap.size+1) (fun h=>by have:=h.1;have:=hs2.out;omega) (.int .i64 0) (.bool b) (.int .i64 n) (.string t) (.string x) (.slice ao l.length cap)
  exact bodyPost_ret (v:=.tuple #[agg6 0 b n t x (.slice ao l.length cap),.int .i64 0,.bool true]) (res3 rfl _ _ (w.heap.size+1) 38 _ (0,0) _ _ _ rfl rfl rfl hfin.eq Tryz.underlying38 rfl infoV6) rfl ⟨0,b,n,t,x,ao,cap,l,rfl,hbf,hlf.mono fun c hc=>⟨by have:=hc.1;have:=hs2.out;omega,by have:=hc.2;have:=hs4.out;simp only[World.setCell,Array.size_modify];omega⟩,hok3.out,hm3.out,fun h=>by cases h⟩
 ·go_wp2
  have hfin:=Blk.set6 hq4.out (.int .i64 k) (.bool b) (.int .i64 n) (.string t) (.string x) (.slice ao l.length cap)
  have hbf:=Below.set6 hB4.out (b:=w.heap.size+1) (Nat.le_succ _) (.int .i64 k) (.bool b) (.int .i64 n) (.string t) (.string x) (.slice ao l.length cap)
  have hlf:=hl4.out.set6 (w.heap.size+1) (fun h=>by have:=h.1;have:=hs2.out;omega) (.int .i64 k) (.bool b) (.int .i64 n) (.string t) (.string x) (.slice ao l.length cap)
  exact bodyPost_ret (v:=.tuple #[agg6 k b n t x (.slice ao l.length cap),.int .i64 0,.bool true]) (res3 rfl _ _ (w.heap.size+1) 38 _ (0,0) _ _ _ rfl rfl rfl hfin.eq Tryz.underlying38 rfl infoV6) rfl ⟨k,b,n,t,x,ao,cap,l,rfl,hbf,hlf.mono fun c hc=>⟨by have:=hc.1;have:=hs2.out;omega,by have:=hc.2;have:=hs4.out;simp only[World.setCell,Array.size_modify];omega⟩,hok3.out,hm3.out,fun h=>by cases h⟩
end Go.Proofs.YtcaeipdgbaligaaGreatDoor.ex
