/- An expression's value in C, where nothing errs. -/
import Derived.Test.YtcaeipdgbaligaaGreatDoorXEvT
set_option linter.unusedSimpArgs false
set_option linter.unusedVariables false
set_option maxHeartbeats 8000000
namespace Go.Proofs.YtcaeipdgbaligaaGreatDoor.ex
open Go.ChangeShapes Go.WideShapes Go.ChangeAt Go.RowKit kit dec val tab logic
open hyp (RowA TextsA textsV textsV_length news_one own_row)
set_option maxRecDepth 100000
theorem value_isG(op:Int)(tx:ByteArray)(kk:Int)(bb:Bool)(nn:Int)(t2 u2:ByteArray)(a1:Option Addr)(a2 a3:Nat)(f:Bool)(aa:Option Addr)(argn ca:Nat)(ap:Option Addr)(plan cp:Nat)(am:Option Addr)(mt cm:Nat)(ag:Option Addr)(gp cg:Nat)(w:World)(eb:Nat)(R:V→Prop)(cS:∀W,Below w.heap.size w W→Calls Tryz.prog 36 #[.pointer (some ⟨eb,0,none⟩),.agg #[.int .i64 op,.string tx,.int .i64 kk,.bool bb,.int .i64 nn,.string t2,.string u2,.slice a1 a2 a3,.bool f,.slice aa argn ca,.slice ap plan cp,.slice am mt cm,.slice ag gp cg]] W (SgG R W)):
 Calls Tryz.prog 22 #[.pointer (some ⟨eb,0,none⟩),.agg #[.int .i64 op,.string tx,.int .i64 kk,.bool bb,.int .i64 nn,.string t2,.string u2,.slice a1 a2 a3,.bool f,.slice aa argn ca,.slice ap plan cp,.slice am mt cm,.slice ag gp cg]] w (EvG R w):=by
 have hq0:=(Blk.new w #[.int .i64 op,.string tx,.int .i64 kk,.bool bb,.int .i64 nn,.string t2,.string u2,.slice a1 a2 a3,.bool f,.slice aa argn ca,.slice ap plan cp,.slice am mt cm,.slice ag gp cg] 43).alloc (.cells #[.int .i64 0,.bool false,.int .i64 0,.string ⟨#[]⟩,.string ⟨#[]⟩,.slice none 0 0] 38)
 have hq1:=Blk.new (w.alloc (.cells #[.int .i64 op,.string tx,.int .i64 kk,.bool bb,.int .i64 nn,.string t2,.string u2,.slice a1 a2 a3,.bool f,.slice aa argn ca,.slice ap plan cp,.slice am mt cm,.slice ag gp cg] 43)) #[.int .i64 0,.bool false,.int .i64 0,.string ⟨#[]⟩,.string ⟨#[]⟩,.slice none 0 0] 38
 rw[World.size_alloc]at hq1
 have hal:Below w.heap.size w ((w.alloc (.cells #[.int .i64 op,.string tx,.int .i64 kk,.bool bb,.int .i64 nn,.string t2,.string u2,.slice a1 a2 a3,.bool f,.slice aa argn ca,.slice ap plan cp,.slice am mt cm,.slice ag gp cg] 43)).alloc (.cells #[.int .i64 0,.bool false,.int .i64 0,.string ⟨#[]⟩,.string ⟨#[]⟩,.slice none 0 0] 38)):=((Below.refl _ _).alloc (Nat.le_refl _) _).alloc (by rw[World.size_alloc];omega) _
 have hsz:((w.alloc (.cells #[.int .i64 op,.string tx,.int .i64 kk,.bool bb,.int .i64 nn,.string t2,.string u2,.slice a1 a2 a3,.bool f,.slice aa argn ca,.slice ap plan cp,.slice am mt cm,.slice ag gp cg] 43)).alloc (.cells #[.int .i64 0,.bool false,.int .i64 0,.string ⟨#[]⟩,.string ⟨#[]⟩,.slice none 0 0] 38)).heap.size=w.heap.size+2:=by simp only[World.size_alloc]
 have cC:=Hd (cS _ hal)
 have t0:=hq0.cell 0 rfl
 have t1:=hq0.cell 1 rfl
 have t2a:=hq0.cell 2 rfl
 have t3:=hq0.cell 3 rfl
 have t4:=hq0.cell 4 rfl
 have t5:=hq0.cell 5 rfl
 have t6:=hq0.cell 6 rfl
 have t7:=hq0.cell 7 rfl
 have t8:=hq0.cell 8 rfl
 have t9:=hq0.cell 9 rfl
 have t10:=hq0.cell 10 rfl
 have t11:=hq0.cell 11 rfl
 have t12:=hq0.cell 12 rfl
 replace hq0:=Hd hq0
 replace hq1:=Hd hq1
 replace hal:=Hd hal
 replace hsz:=Hd hsz
 clear cS
 go_enter Tryz.func22,Tryz.ntmps22
 go_wp2_with fail
 refine cC.out.mono ?_
 rintro e w3 ⟨k,b,n,t,x,ao,cap,l,rfl,hb3,hl3,hok3,hm3⟩
 unfold agg6
 rw[hsz.out]at hl3
 have hal6:Below w3.heap.size w3 (w3.alloc (.cells #[.int .i64 k,.bool b,.int .i64 n,.string t,.string x,.slice ao l.length cap] 38)):=(Below.refl _ _).alloc (Nat.le_refl _) _
 have hq13:Blk w3 (w.heap.size+1) #[.int .i64 0,.bool false,.int .i64 0,.string ⟨#[]⟩,.string ⟨#[]⟩,.slice none 0 0] 38:=(hb3.block _ hq1.out.lt).trans hq1.out
 have hq14:=hq13.alloc (.cells #[.int .i64 k,.bool b,.int .i64 n,.string t,.string x,.slice ao l.length cap] 38)
 have hq6:=Blk.new w3 #[.int .i64 k,.bool b,.int .i64 n,.string t,.string x,.slice ao l.length cap] 38
 have hB3:=hal.out.trans (hb3.mono hal.out.size)
 have hB4:=hB3.trans (hal6.mono hB3.size)
 have hl4:=hl3.stay fun c hS hlt=>hal6.block c hlt
 clear t0 t1 t2a t3 t4 t5 t6 t7 t8 t9 t10 t11 t12
 have u0:=hq6.cell 0 rfl
 have u1:=hq6.cell 1 rfl
 have u2a:=hq6.cell 2 rfl
 have u3:=hq6.cell 3 rfl
 have u4:=hq6.cell 4 rfl
 have u5:=hq6.cell 5 rfl
 have v0:=hq14.cell 0 rfl
 have v1:=hq14.cell 1 rfl
 have v2:=hq14.cell 2 rfl
 have v3:=hq14.cell 3 rfl
 have v4:=hq14.cell 4 rfl
 have v5:=hq14.cell 5 rfl
 have f1:=hq14.free
 have hs4:Hid ((w3.alloc (.cells #[.int .i64 k,.bool b,.int .i64 n,.string t,.string x,.slice ao l.length cap] 38)).heap.size=w3.heap.size+1):=Hd (World.size_alloc _ _)
 replace hq14:=Hd hq14
 replace hB4:=Hd hB4
 replace hl4:=Hd hl4
 replace hok3:=Hd hok3
 replace hm3:=Hd hm3
 clear cC hb3 hq1 hq0 hl3 hB3 hq13 hal6 hq6
 go_wp2
 have hfin:=Blk.set6 hq14.out (.int .i64 k) (.bool b) (.int .i64 n) (.string t) (.string x) (.slice ao l.length cap)
 have hbf:=Below.set6 hB4.out (b:=w.heap.size+1) (Nat.le_succ _) (.int .i64 k) (.bool b) (.int .i64 n) (.string t) (.string x) (.slice ao l.length cap)
 have hlf:=hl4.out.set6 (w.heap.size+1) (fun h=>by have:=h.1;omega) (.int .i64 k) (.bool b) (.int .i64 n) (.string t) (.string x) (.slice ao l.length cap)
 exact bodyPost_ret (v:=.tuple #[agg6 k b n t x (.slice ao l.length cap),.int .i64 0]) (res2 rfl _ _ (w.heap.size+1) 38 _ (0,0) _ _ rfl rfl hfin.eq Tryz.underlying38 rfl infoV6) rfl ⟨k,b,n,t,x,ao,cap,l,rfl,hbf,hlf.mono fun c hc=>⟨by have:=hc.1;omega,by have:=hc.2;have:=hs4.out;simp only[World.setCell,Array.size_modify];omega⟩,hok3.out,hm3.out⟩
theorem value_is(op:Int)(tx:ByteArray)(kk:Int)(bb:Bool)(nn:Int)(t2 u2:ByteArray)(a1:Option Addr)(a2 a3:Nat)(f:Bool)(aa:Option Addr)(argn ca:Nat)(ap:Option Addr)(plan cp:Nat)(am:Option Addr)(mt cm:Nat)(ag:Option Addr)(gp cg:Nat)(w:World)(eb:Nat)(bx:Bool)(cS:∀W,Below w.heap.size w W→Calls Tryz.prog 36 #[.pointer (some ⟨eb,0,none⟩),.agg #[.int .i64 op,.string tx,.int .i64 kk,.bool bb,.int .i64 nn,.string t2,.string u2,.slice a1 a2 a3,.bool f,.slice aa argn ca,.slice ap plan cp,.slice am mt cm,.slice ag gp cg]] W (SgP bx W)):
 Calls Tryz.prog 22 #[.pointer (some ⟨eb,0,none⟩),.agg #[.int .i64 op,.string tx,.int .i64 kk,.bool bb,.int .i64 nn,.string t2,.string u2,.slice a1 a2 a3,.bool f,.slice aa argn ca,.slice ap plan cp,.slice am mt cm,.slice ag gp cg]] w (EvP bx w):=by
 refine(value_isG op tx kk bb nn t2 u2 a1 a2 a3 f aa argn ca ap plan cp am mt cm ag gp cg w eb (fun u=>mayV u=true∧(bx=true→kindV u=0∨kindV u=1)) fun W hW=>(cS W hW).mono ?_).mono ?_
 ·rintro e w' ⟨k,b,n,t,x,ao,cap,l,rfl,h1,h2,h3,h4,h5⟩
  exact⟨_,_,_,_,_,_,_,_,rfl,h1,h2,h3,h4,h5⟩
 ·rintro e w' ⟨k,b,n,t,x,ao,cap,l,rfl,h1,h2,h3,h4,h5⟩
  exact⟨_,_,_,_,_,_,_,_,rfl,h1,h2,h3,h4,h5⟩
theorem row6_heap{w w':World}{b o:Nat}{k:Int}{bo:Bool}{n:Int}{t x:ByteArray}{s:Value}(h:Row6 w b o k bo n t x s)(hh:w'.heap[b]? = w.heap[b]?):Row6 w' b o k bo n t x s:=by
 have hc:∀i,w'.cell? ⟨b,i,none⟩=w.cell? ⟨b,i,none⟩:=fun i=>hyp.cell_heap hh
 have hlt:b<w'.heap.size:=by
  have h1:=hh.trans (Array.getElem?_eq_getElem h.lt)
  exact(Array.getElem?_eq_some_iff.1 h1).1
 exact⟨hlt,(hc _).trans h.c0,(hc _).trans h.c1,(hc _).trans h.c2,(hc _).trans h.c3,(hc _).trans h.c4,(hc _).trans h.c5⟩
theorem value_cmp(op:Int)(tx:ByteArray)(kk:Int)(bb:Bool)(nn:Int)(t2 u2:ByteArray)(a1:Option Addr)(a2 a3:Nat)(f:Bool)(aa:Option Addr)(argn ca:Nat)(ap:Option Addr)(plan cp:Nat)(am:Option Addr)(mt cm:Nat)(ag:Option Addr)(gp cg:Nat)(hop:9≤op∧op≤14)(w:World)(eb ev:Nat)(ns:List ByteArray)(vs:List V)(hC:EvC w eb ev ns vs)(cS:∀W,Below w.heap.size w W→Calls Tryz.prog 36 #[.pointer (some ⟨eb,0,none⟩),.agg #[.int .i64 op,.string tx,.int .i64 kk,.bool bb,.int .i64 nn,.string t2,.string u2,.slice a1 a2 a3,.bool f,.slice aa argn ca,.slice ap plan cp,.slice am mt cm,.slice ag gp cg]] W (NoP W))
 (args:List X)(hal2:args.length=2)(cV:∀W,Below w.heap.size w W→Calls Tryz.prog 37 #[.pointer (some ⟨eb,0,none⟩),.slice aa argn ca] W (VsP args W)):
 Calls Tryz.prog 22 #[.pointer (some ⟨eb,0,none⟩),.agg #[.int .i64 op,.string tx,.int .i64 kk,.bool bb,.int .i64 nn,.string t2,.string u2,.slice a1 a2 a3,.bool f,.slice aa argn ca,.slice ap plan cp,.slice am mt cm,.slice ag gp cg]] w (EvP true w):=by
 have hq0:=(Blk.new w #[.int .i64 op,.string tx,.int .i64 kk,.bool bb,.int .i64 nn,.string t2,.string u2,.slice a1 a2 a3,.bool f,.slice aa argn ca,.slice ap plan cp,.slice am mt cm,.slice ag gp cg] 43).alloc (.cells #[.int .i64 0,.bool false,.int .i64 0,.string ⟨#[]⟩,.string ⟨#[]⟩,.slice none 0 0] 38)
 have hq1:=Blk.new (w.alloc (.cells #[.int .i64 op,.string tx,.int .i64 kk,.bool bb,.int .i64 nn,.string t2,.string u2,.slice a1 a2 a3,.bool f,.slice aa argn ca,.slice ap plan cp,.slice am mt cm,.slice ag gp cg] 43)) #[.int .i64 0,.bool false,.int .i64 0,.string ⟨#[]⟩,.string ⟨#[]⟩,.slice none 0 0] 38
 rw[World.size_alloc]at hq1
 have hal:Below w.heap.size w ((w.alloc (.cells #[.int .i64 op,.string tx,.int .i64 kk,.bool bb,.int .i64 nn,.string t2,.string u2,.slice a1 a2 a3,.bool f,.slice aa argn ca,.slice ap plan cp,.slice am mt cm,.slice ag gp cg] 43)).alloc (.cells #[.int .i64 0,.bool false,.int .i64 0,.string ⟨#[]⟩,.string ⟨#[]⟩,.slice none 0 0] 38)):=((Below.refl _ _).alloc (Nat.le_refl _) _).alloc (by rw[World.size_alloc];omega) _
 have hsz:((w.alloc (.cells #[.int .i64 op,.string tx,.int .i64 kk,.bool bb,.int .i64 nn,.string t2,.string u2,.slice a1 a2 a3,.bool f,.slice aa argn ca,.slice ap plan cp,.slice am mt cm,.slice ag gp cg] 43)).alloc (.cells #[.int .i64 0,.bool false,.int .i64 0,.string ⟨#[]⟩,.string ⟨#[]⟩,.slice none 0 0] 38)).heap.size=w.heap.size+2:=by simp only[World.size_alloc]
 have cC:=Hd (cS _ hal)
 have t0:=hq0.cell 0 rfl
 have t1:=hq0.cell 1 rfl
 have t2a:=hq0.cell 2 rfl
 have t3:=hq0.cell 3 rfl
 have t4:=hq0.cell 4 rfl
 have t5:=hq0.cell 5 rfl
 have t6:=hq0.cell 6 rfl
 have t7:=hq0.cell 7 rfl
 have t8:=hq0.cell 8 rfl
 have t9:=hq0.cell 9 rfl
 have t10:=hq0.cell 10 rfl
 have t11:=hq0.cell 11 rfl
 have t12:=hq0.cell 12 rfl
 replace hq0:=Hd hq0
 replace hq1:=Hd hq1
 replace hal:=Hd hal
 replace hsz:=Hd hsz
 clear cS
 replace cV:=Hd cV
 replace hC:=Hd hC
 replace hal2:=Hd hal2
 go_enter Tryz.func22,Tryz.ntmps22
 go_wp2_with fail
 refine cC.out.mono ?_
 rintro e w3 ⟨rfl,hb3⟩
 have hal6:Below w3.heap.size w3 (w3.alloc (.cells #[.int .i64 0,.bool false,.int .i64 0,.string ⟨#[]⟩,.string ⟨#[]⟩,.slice none 0 0] 38)):=(Below.refl _ _).alloc (Nat.le_refl _) _
 have hq03:Blk w3 w.heap.size #[.int .i64 op,.string tx,.int .i64 kk,.bool bb,.int .i64 nn,.string t2,.string u2,.slice a1 a2 a3,.bool f,.slice aa argn ca,.slice ap plan cp,.slice am mt cm,.slice ag gp cg] 43:=(hb3.block _ hq0.out.lt).trans hq0.out
 have hq13:Blk w3 (w.heap.size+1) #[.int .i64 0,.bool false,.int .i64 0,.string ⟨#[]⟩,.string ⟨#[]⟩,.slice none 0 0] 38:=(hb3.block _ hq1.out.lt).trans hq1.out
 have hq04:=hq03.alloc (.cells #[.int .i64 0,.bool false,.int .i64 0,.string ⟨#[]⟩,.string ⟨#[]⟩,.slice none 0 0] 38)
 have hq14:=hq13.alloc (.cells #[.int .i64 0,.bool false,.int .i64 0,.string ⟨#[]⟩,.string ⟨#[]⟩,.slice none 0 0] 38)
 have hB3:=hal.out.trans (hb3.mono hal.out.size)
 have hB4:=hB3.trans (hal6.mono hB3.size)
 have cV4:=Hd (cV.out _ hB4)
 clear t0 t1 t2a t3 t4 t5 t6 t7 t8 t9 t10 t11 t12
 have x9:=hq04.cell 9 rfl
 replace hq04:=Hd hq04
 replace hq14:=Hd hq14
 replace hB4:=Hd hB4
 clear cC cV hb3 hq1 hq0 hB3 hq13 hq03 hal6
 go_wp2_with fail
 refine cV4.out.mono ?_
 rintro e w5 ⟨us,ao,cap,rfl,hul,hb5,hla,hfit⟩
 have hq05:Blk w5 w.heap.size #[.int .i64 op,.string tx,.int .i64 kk,.bool bb,.int .i64 nn,.string t2,.string u2,.slice a1 a2 a3,.bool f,.slice aa argn ca,.slice ap plan cp,.slice am mt cm,.slice ag gp cg] 43:=(hb5.block _ hq04.out.lt).trans hq04.out
 have hq15:Blk w5 (w.heap.size+1) #[.int .i64 0,.bool false,.int .i64 0,.string ⟨#[]⟩,.string ⟨#[]⟩,.slice none 0 0] 38:=(hb5.block _ hq14.out.lt).trans hq14.out
 have hB5:=hB4.out.trans (hb5.mono hB4.out.size)
 have hu2:us.length=2:=by rw[hul];exact hal2.out
 obtain⟨bA,oA,k1,b1,n1,s1,s2,l1,e1,e3,rfl,-,hrA,hokA,hslA⟩:=la_at hla 0 (by omega)
 obtain⟨bB,oB,k3,b3,n3,s3,s4,l3,d1,d3,hBB,-,hrB,hokB,hslB⟩:=la_at hla 1 (by omega)
 cases hBB
 rw[Nat.zero_mul,Nat.add_zero]at hrA
 rw[Nat.one_mul]at hrB
 rw[hu2]
 have e0:=(hC.out.stay hB5).blk.cell 0 rfl
 clear x9 cV4
 have x0:=hq05.cell 0 rfl
 have cC:=Hd (fun W=>xcomp_any W op)
 rw[decide_eq_true hop]at cC
 have o4:(op==4)=false:=beq_eq_false_iff_ne.2 (by omega)
 have o3:(op==3)=false:=beq_eq_false_iff_ne.2 (by omega)
 have hd6:Below w5.heap.size w5 w5.drew:=Below_drewN 1 (Below.refl _ _)
 have hB6:=hB5.trans (hd6.mono hB5.size)
 have hS0:Blk w5.drew w.heap.size #[.int .i64 op,.string tx,.int .i64 kk,.bool bb,.int .i64 nn,.string t2,.string u2,.slice a1 a2 a3,.bool f,.slice aa argn ca,.slice ap plan cp,.slice am mt cm,.slice ag gp cg] 43∧Row6 w5.drew bA oA k1 b1 n1 s1 s2 (.slice e1 l1.length e3)∧Row6 w5.drew bA (oA+6) k3 b3 n3 s3 s4 (.slice d1 l3.length d3):=⟨hq05,hrA.below hd6,hrB.below hd6⟩
 have hq16:Blk w5.drew (w.heap.size+1) #[.int .i64 0,.bool false,.int .i64 0,.string ⟨#[]⟩,.string ⟨#[]⟩,.slice none 0 0] 38:=hq15
 have hC6:=hC.out.stay hB6
 have cH:=xholds_any w5.drew hC6.env eb _ hC6.blk op hop k1 b1 n1 s1 s2 _ l1 k3 b3 n3 s3 s4 _ l3 (hslA.stay hd6) hokA (hslB.stay hd6) hokB
 unfold agg6 at cH
 replace cH:=Hd cH
 replace hB6:=Hd hB6
 replace hq16:=Hd hq16
 replace hC6:=Hd hC6
 replace hop:=Hd hop
 clear hq05 hq15 hB5 hrA hrB hslA hslB hokA hokB hla hfit hd6 hul hu2 hq04 hq14 hB4 hb5
 go_wp2_with fail
 refine(cC.out _).mono ?_
 rintro e w6 ⟨rfl,rfl⟩
 clear cC
 go_upto_region 21 with fail
 clear x0 e0
 refine wp_region_held_drew (S:=fun V=>Blk V w.heap.size #[.int .i64 op,.string tx,.int .i64 kk,.bool bb,.int .i64 nn,.string t2,.string u2,.slice a1 a2 a3,.bool f,.slice aa argn ca,.slice ap plan cp,.slice am mt cm,.slice ag gp cg] 43∧Row6 V bA oA k1 b1 n1 s1 s2 (.slice e1 l1.length e3)∧Row6 V bA (oA+6) k3 b3 n3 s3 s4 (.slice d1 l3.length d3)) (by kernel_rfl) hS0 (fun hS=>?_)
 generalize w6.drew=V0 at *
 refine tkS [0,1,2,3,4,5,6,7,8,9] ?_
 iterate 10
  refine tkC ?_ rfl (fun w' hS=>?_) hS ?_
  rotate_left
  ·
   have y0:=hS.1.cell 0 rfl;obtain⟨p0,p1,p2,p3,p4,p5⟩:=hS.2.1.six;obtain⟨r0,r1,r2,r3,r4,r5⟩:=hS.2.2.six
   go_simp
   try with_reducible rfl
 refine rdH 10 rfl (fun K hK=>?_)
 clear hS
 go_simp
 refine(cH.out).mono ?_
 rintro e w7 ⟨r,rfl,hr,hb7⟩
 go_wp2_with fail
 refine hKo hK (⟨(hb7.block _ hS0.1.lt).trans hS0.1,hS0.2.1.below hb7,hS0.2.2.below hb7⟩) (fun hS=>?_)
 clear hK K
 have hB7:=Hd (hB6.out.trans (hb7.mono hB6.out.size))
 have hS7:Blk w7 w.heap.size #[.int .i64 op,.string tx,.int .i64 kk,.bool bb,.int .i64 nn,.string t2,.string u2,.slice a1 a2 a3,.bool f,.slice aa argn ca,.slice ap plan cp,.slice am mt cm,.slice ag gp cg] 43∧Row6 w7 bA oA k1 b1 n1 s1 s2 (.slice e1 l1.length e3)∧Row6 w7 bA (oA+6) k3 b3 n3 s3 s4 (.slice d1 l3.length d3):=⟨(hb7.block _ hS0.1.lt).trans hS0.1,hS0.2.1.below hb7,hS0.2.2.below hb7⟩
 have hq17:Hid (Blk w7 (w.heap.size+1) #[.int .i64 0,.bool false,.int .i64 0,.string ⟨#[]⟩,.string ⟨#[]⟩,.slice none 0 0] 38):=Hd ((hb7.block _ hq16.out.lt).trans hq16.out)
 have cT:=xtold_c w7 eb _ (hC6.out.stay hb7).blk r hr
 have hkk:Hid (bkK r=0∨bkK r=1):=Hd (by unfold bkK;split;exact .inl rfl;exact .inr rfl)
 have hmm:Hid (mayV (.mk (bkK r) (bkB r) 0 ⟨#[]⟩ ⟨#[]⟩ [])=true):=Hd (by
  rcases hr with rfl|rfl|rfl
  ·exact bool_may _
  ·exact bool_may _
  ·exact null_mayV)
 unfold agg6 at cT
 generalize bkK r=rk at *
 generalize bkB r=rb at *
 clear hb7 hS0 hq16 hB6 hC6 cH hr
 refine rdH 11 rfl (fun K hK=>?_)
 clear hS
 go_simp
 refine(cT).mono ?_
 rintro e w8 ⟨rfl,hb8⟩
 go_wp2_with fail
 refine hKo hK (⟨(hb8.block _ hS7.1.lt).trans hS7.1,hS7.2.1.below hb8,hS7.2.2.below hb8⟩) (fun hS=>?_)
 clear hK K
 have hB8:=hB7.out.trans (hb8.mono hB7.out.size)
 have hS8:Blk w8 w.heap.size #[.int .i64 op,.string tx,.int .i64 kk,.bool bb,.int .i64 nn,.string t2,.string u2,.slice a1 a2 a3,.bool f,.slice aa argn ca,.slice ap plan cp,.slice am mt cm,.slice ag gp cg] 43∧Row6 w8 bA oA k1 b1 n1 s1 s2 (.slice e1 l1.length e3)∧Row6 w8 bA (oA+6) k3 b3 n3 s3 s4 (.slice d1 l3.length d3):=⟨(hb8.block _ hS7.1.lt).trans hS7.1,hS7.2.1.below hb8,hS7.2.2.below hb8⟩
 have hq18:Blk w8 (w.heap.size+1) #[.int .i64 0,.bool false,.int .i64 0,.string ⟨#[]⟩,.string ⟨#[]⟩,.slice none 0 0] 38:=(hb8.block _ hq17.out.lt).trans hq17.out
 clear hb8 cT hq17 hB7 hS7
 refine tkS [12,13] ?_
 iterate 2
  refine tkC ?_ rfl (fun w' hS=>?_) hS ?_
  rotate_left
  ·
   skip
   go_simp
   try with_reducible rfl
 have hne:bA≠w.heap.size+1:=fun h=>by
  have h1:=hS8.2.2.c0
  rw[h,cell_of_row _ _ _ _ _ _ hq18]at h1
  have h2:=(Array.getElem?_eq_some_iff.1 h1).1
  simp at h2
  omega
 refine rdH 14 rfl (fun K hK=>?_)
 clear hS
 have hq4:=Hd (hq18.setRow (cs':=#[.int .i64 rk,.bool rb,.int .i64 0,.string ⟨#[]⟩,.string ⟨#[]⟩,.slice none 0 0]))
 have hS9:Blk (w8.setRow (w.heap.size+1) #[.int .i64 rk,.bool rb,.int .i64 0,.string ⟨#[]⟩,.string ⟨#[]⟩,.slice none 0 0]) w.heap.size #[.int .i64 op,.string tx,.int .i64 kk,.bool bb,.int .i64 nn,.string t2,.string u2,.slice a1 a2 a3,.bool f,.slice aa argn ca,.slice ap plan cp,.slice am mt cm,.slice ag gp cg] 43∧Row6 (w8.setRow (w.heap.size+1) #[.int .i64 rk,.bool rb,.int .i64 0,.string ⟨#[]⟩,.string ⟨#[]⟩,.slice none 0 0]) bA oA k1 b1 n1 s1 s2 (.slice e1 l1.length e3)∧Row6 (w8.setRow (w.heap.size+1) #[.int .i64 rk,.bool rb,.int .i64 0,.string ⟨#[]⟩,.string ⟨#[]⟩,.slice none 0 0]) bA (oA+6) k3 b3 n3 s3 s4 (.slice d1 l3.length d3):=
  ⟨hS8.1.setRow_other (by omega),row6_heap hS8.2.1 (_root_.Go.setRow_other w8 _ bA _ hne),row6_heap hS8.2.2 (_root_.Go.setRow_other w8 _ bA _ hne)⟩
 have hB4:=Hd (setRow_under hB8 (g:=w.heap.size+1) (by omega) #[.int .i64 rk,.bool rb,.int .i64 0,.string ⟨#[]⟩,.string ⟨#[]⟩,.slice none 0 0])
 rw[if_pos (by kernel_rfl)]
 refine wp_store_row 38 (.tmp 4) (.tmp 112) rfl (w.heap.size+1) #[.int .i64 rk,.bool rb,.int .i64 0,.string ⟨#[]⟩,.string ⟨#[]⟩,.slice none 0 0] rfl rfl 38 #[.int .i64 0,.bool false,.int .i64 0,.string ⟨#[]⟩,.string ⟨#[]⟩,.slice none 0 0] hq18.eq infoV6 rfl (by simp[Value.oneCell']) ?_
 refine hKo hK hS9 (fun hS=>?_)
 clear hK K hq18 hB8 hS8
 refine tkH 15 ?_ rfl (fun w' hS=>?_) hS ?_
 rotate_left
 ·
  skip
  go_simp
  try with_reducible rfl
 refine wpAnyH_done (by kernel_rfl) ?_ _
 clear hS
 generalize w8.setRow (w.heap.size+1) #[.int .i64 rk,.bool rb,.int .i64 0,.string ⟨#[]⟩,.string ⟨#[]⟩,.slice none 0 0]=w9 at *
 go_wp2
 exact bodyPost_ret (v:=.tuple #[agg6 rk rb 0 ⟨#[]⟩ ⟨#[]⟩ (.slice none 0 0),.int .i64 0]) (res2 rfl _ _ (w.heap.size+1) 38 _ (0,0) _ _ rfl rfl hq4.out.eq Tryz.underlying38 rfl infoV6) rfl ⟨rk,rb,0,⟨#[]⟩,⟨#[]⟩,none,0,[],rfl,hB4.out,LF.nil _ _ _,ok_small rk (by have:=hkk.out;omega) (by have:=hkk.out;omega) rb,hmm.out,fun _=>hkk.out⟩
theorem own_part{s:Bool}{op:Int}{t:ByteArray}{v:V}{f:Bool}{n:Nat}{p:List P}{mt gp:Nat}(h:ownX s op t v f n p mt gp=true):(op=1→mayV v=true)∧(op=5∨op=16→n=1)∧(op=6∨op=7∨op=8∨(9≤op∧op≤14)→n=2):=by
 unfold ownX at h
 rw[Bool.and_eq_true]at h
 replace h:=h.2
 refine⟨?_,?_,?_⟩
 ·rintro rfl
  simp at h
  exact h.2
 ·rintro(rfl|rfl)
  all_goals
   simp at h
   exact h
 ·intro ho
  rcases(by omega:op=6∨op=7∨op=8∨op=9∨op=10∨op=11∨op=12∨op=13∨op=14) with rfl|rfl|rfl|rfl|rfl|rfl|rfl|rfl|rfl
  all_goals
   simp at h
   first|exact h|exact h.2
theorem calmXs_all:∀l:List X,calmXs l=true→∀a∈l,calmX a=true
 |[],_,a,ha=>by cases ha
 |x::l,h,a,ha=>by
  rw[calmXs,Bool.and_eq_true]at h
  rcases List.mem_cons.1 ha with rfl|ha
  ·exact h.1
  ·exact calmXs_all l h.2 a ha
theorem truthXs_all:∀l:List X,truthXs l=true→∀a∈l,bareX a=true∧calmX a=true
 |[],_,a,ha=>by cases ha
 |x::l,h,a,ha=>by
  rw[truthXs,Bool.and_eq_true,Bool.and_eq_true]at h
  rcases List.mem_cons.1 ha with rfl|ha
  ·exact h.1
  ·exact truthXs_all l h.2 a ha
theorem value_all:∀m,EvX m:=by
 intro m
 induction m with
 |zero=>intro x hm;omega
 | succ m ih =>
  intro x hm d g hok hcalm w eb ev ns vs hC v hv
  cases hv with
  | mk op t kk b n t2 u2 sv l f aa ca args ap cp plan am mt cm ag gp cg i0 i1 ik i_n i2 i3 hl ha hp hmt hgp =>
   unfold c13
   obtain⟨e1,e3,rfl⟩:=hl.form6
   have hsm:∀a∈args,SizeOf.sizeOf a<m:=fun a hma=>by
    have h1:=List.sizeOf_lt_of_mem hma
    simp at hm
    omega
   rw[okX]at hok
   simp only[Bool.and_eq_true]at hok
   obtain⟨⟨⟨hd,hown⟩,hgg⟩,hoks⟩:=hok
   rw[okXs_all,List.all_eq_true]at hoks
   obtain⟨w1,w2,w3⟩:=own_part hown
   rw[calmX]at hcalm
   rw[bareX]
   by_cases o1:op=1
   ·subst o1
    refine value_is 1 t kk b n t2 u2 e1 l.length e3 f aa args.length ca ap plan.length cp am mt cm ag gp cg w eb _ fun W hW=>?_
    refine sing_lit t kk b n t2 u2 e1 e3 l f aa args.length ca ap plan.length cp am mt cm ag gp cg W _ (hl.stay hW) ⟨ik,i_n,i2,i3⟩ (w1 rfl) _ fun h=>?_
    rw[Bool.and_eq_true,Bool.or_eq_true]at h
    rcases h.2 with h|h
    ·exact absurd rfl (of_decide_eq_true h)
    ·have h2:kk=1∨kk=0:=of_decide_eq_true h
     exact h2.symm
   by_cases o2:op=2
   ·subst o2
    have e:(decide ((2:Int)≠2)&&(decide ((2:Int)≠1)||decide (kindV (.mk kk b n t2 u2 l)=1∨kindV (.mk kk b n t2 u2 l)=0)))=false:=by simp
    rw[e]
    exact value_is 2 t kk b n t2 u2 e1 l.length e3 f aa args.length ca ap plan.length cp am mt cm ag gp cg w eb _ fun W hW=>
     sing_var t kk b n t2 u2 e1 l.length e3 f aa args.length ca ap plan.length cp am mt cm ag gp cg W eb ev ns vs (hC.stay hW)
   have e:(decide (op≠2)&&(decide (op≠1)||decide (kindV (.mk kk b n t2 u2 l)=1∨kindV (.mk kk b n t2 u2 l)=0)))=true:=by simp[o1,o2]
   rw[e]
   rw[if_neg (by omega)]at hcalm
   by_cases o16:op=16
   ·subst o16
    rw[if_pos (.inl rfl)]at hcalm
    have hca:=calmXs_all args hcalm
    refine value_is 16 t kk b n t2 u2 e1 l.length e3 f aa args.length ca ap plan.length cp am mt cm ag gp cg w eb _ fun W hW=>?_
    refine sing_null t kk b n t2 u2 e1 l.length e3 f aa args.length ca ap plan.length cp am mt cm ag gp cg W eb fun W2 hW2=>?_
    have h2:=hW.trans (hW2.mono hW.size)
    exact isNull_of m ih 16 t kk b n t2 u2 e1 l.length e3 f aa ca args ap plan.length cp am mt cm ag gp cg (w2 (.inr rfl)) hsm _ _ hoks hca W2 eb ev ns vs (hC.stay h2) (XS.stay h2 ha)
   by_cases o9:9≤op∧op≤14
   ·rw[if_pos (.inr o9)]at hcalm
    have hca:=calmXs_all args hcalm
    exact value_cmp op t kk b n t2 u2 e1 l.length e3 f aa args.length ca ap plan.length cp am mt cm ag gp cg o9 w eb ev ns vs hC
     (fun W hW=>sing_comp op o9 t kk b n t2 u2 e1 l.length e3 f aa args.length ca ap plan.length cp am mt cm ag gp cg W _) args (w3 (by omega))
     (fun W hW=>values_of m ih args hsm _ _ hoks hca W eb ev ns vs (hC.stay hW) aa ca (XS.stay hW ha))
   rw[if_neg (by omega)]at hcalm
   by_cases o6:op=6∨op=7∨op=5∨op=8
   ·rw[if_pos o6]at hcalm
    have hca:=truthXs_all args hcalm
    refine value_is op t kk b n t2 u2 e1 l.length e3 f aa args.length ca ap plan.length cp am mt cm ag gp cg w eb _ fun W hW=>?_
    refine sing_logic op (by omega) t kk b n t2 u2 e1 l.length e3 f aa args.length ca ap plan.length cp am mt cm ag gp cg W eb fun W2 hW2=>?_
    have h2:=hW.trans (hW2.mono hW.size)
    have hn:(op=5∧args.length=1)∨((op=6∨op=7∨op=8)∧args.length=2):=by
     by_cases o5:op=5
     ·exact .inl ⟨o5,w2 (.inl o5)⟩
     ·exact .inr ⟨by omega,w3 (by omega)⟩
    exact logical_of m ih op t kk b n t2 u2 e1 l.length e3 f aa ca args ap plan.length cp am mt cm ag gp cg hn hsm _ _ hoks (fun a h=>(hca a h).2) (fun a h=>(hca a h).1) W2 eb ev ns vs (hC.stay h2) (XS.stay h2 ha)
   ·rw[if_neg o6]at hcalm
    cases hcalm
end Go.Proofs.YtcaeipdgbaligaaGreatDoor.ex
