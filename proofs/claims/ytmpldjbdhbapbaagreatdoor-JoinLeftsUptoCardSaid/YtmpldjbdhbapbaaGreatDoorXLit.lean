/- A literal condition: what expr's Check, HasAgg, Truth tell of it. -/
import Derived.Test.YtmpldjbdhbapbaaGreatDoorValChk
set_option linter.unusedSimpArgs false
set_option linter.unusedVariables false
set_option maxHeartbeats 4000000
namespace Go.Proofs.YtmpldjbdhbapbaaGreatDoor.tab
open Go.ChangeShapes Go.WideShapes Go.ChangeAt Go.RowKit kit dec val
set_option maxRecDepth 100000
theorem xlang_any(w:World)(lang:Int):Calls Tryz.prog 50 #[.int .i64 lang] w fun e w'=>e=.returned (.int .i64 (if lang=1 then 1 else 0))∧w'=w:=by
 by_cases h:lang=1
 ·subst h
  go_enter Tryz.func50,Tryz.ntmps50
  go_wp2
  go_ret
  exact⟨rfl,rfl⟩
 ·rw[if_neg h]
  go_enter Tryz.func50,Tryz.ntmps50
  go_wp2
  go_ret
  exact⟨rfl,rfl⟩
theorem lit_may(b:Bool):mayV (.mk 1 b 0 ByteArray.empty ByteArray.empty [])=true:=by cases b<;>decide
theorem vcheck_lit(w:World)(hE:Env w)(b:Bool):Calls Tryz.prog 58 #[.agg #[.int .i64 1,.bool b,.int .i64 0,.string ByteArray.empty,.string ByteArray.empty,.slice none 0 0]] w fun e w'=>e=.returned (.bool true)∧Below w.heap.size w w':=by
 have h:=check_any 1048576 (by omega) w hE 1 b 0 ByteArray.empty ByteArray.empty (.slice none 0 0) [] (.mk none 0 [] (by simp) (fun j hj=>by simp at hj)) (by decide) (by decide)
 rw[lit_may]at h
 exact h
theorem xtakes_lit(w:World)(l2:Int)(b:Bool):Calls Tryz.prog 67 #[.int .i64 l2,.agg #[.int .i64 1,.string ByteArray.empty,.int .i64 1,.bool b,.int .i64 0,.string ByteArray.empty,.string ByteArray.empty,.slice none 0 0,.bool false,.slice none 0 0,.slice none 0 0,.slice none 0 0,.slice none 0 0]] w fun e w'=>e=.returned (.tuple #[.int .i64 0,.int .i64 0,.bool true])∧Below w.heap.size w w':=by
 have hq:=Blk.new w #[.int .i64 1,.string ByteArray.empty,.int .i64 1,.bool b,.int .i64 0,.string ByteArray.empty,.string ByteArray.empty,.slice none 0 0,.bool false,.slice none 0 0,.slice none 0 0,.slice none 0 0,.slice none 0 0] 39
 have hal:Below w.heap.size w (w.alloc (.cells #[.int .i64 1,.string ByteArray.empty,.int .i64 1,.bool b,.int .i64 0,.string ByteArray.empty,.string ByteArray.empty,.slice none 0 0,.bool false,.slice none 0 0,.slice none 0 0,.slice none 0 0,.slice none 0 0] 39)):=(Below.refl _ _).alloc (Nat.le_refl _) _
 have x0:=hq.cell 0 rfl
 replace hal:=Hd hal
 clear hq
 go_enter Tryz.func67,Tryz.ntmps67
 go_wp2
 go_ret3
 exact⟨rfl,hal.out⟩
theorem xfields_lit(w:World)(hE:Env w)(b:Bool):Calls Tryz.prog 68 #[.agg #[.int .i64 1,.string ByteArray.empty,.int .i64 1,.bool b,.int .i64 0,.string ByteArray.empty,.string ByteArray.empty,.slice none 0 0,.bool false,.slice none 0 0,.slice none 0 0,.slice none 0 0,.slice none 0 0]] w fun e w'=>e=.returned (.bool true)∧Below w.heap.size w w':=by
 have hq:=Blk.new w #[.int .i64 1,.string ByteArray.empty,.int .i64 1,.bool b,.int .i64 0,.string ByteArray.empty,.string ByteArray.empty,.slice none 0 0,.bool false,.slice none 0 0,.slice none 0 0,.slice none 0 0,.slice none 0 0] 39
 have hal:Below w.heap.size w (w.alloc (.cells #[.int .i64 1,.string ByteArray.empty,.int .i64 1,.bool b,.int .i64 0,.string ByteArray.empty,.string ByteArray.empty,.slice none 0 0,.bool false,.slice none 0 0,.slice none 0 0,.slice none 0 0,.slice none 0 0] 39)):=(Below.refl _ _).alloc (Nat.le_refl _) _
 have cV:=Hd (vcheck_lit _ (hE.below hal) b)
 have x0:=hq.cell 0 rfl
 have x1:=hq.cell 1 rfl
 have x2:=hq.cell 2 rfl
 have x3:=hq.cell 3 rfl
 have x4:=hq.cell 4 rfl
 have x5:=hq.cell 5 rfl
 have x6:=hq.cell 6 rfl
 have x7:=hq.cell 7 rfl
 have x8:=hq.cell 8 rfl
 have x9:=hq.cell 9 rfl
 have x10:=hq.cell 10 rfl
 have x11:=hq.cell 11 rfl
 have x12:=hq.cell 12 rfl
 replace hal:=Hd hal
 replace hq:=Hd hq
 go_enter Tryz.func68,Tryz.ntmps68
 go_wp2_with fail
 refine cV.out.mono ?_
 rintro e w2 ⟨rfl,hb2⟩
 clear x0 x1 x2 x3 x4 x5 x6 x7 x8 x9 x10 x11 x12
 have hq2:Blk w2 w.heap.size #[.int .i64 1,.string ByteArray.empty,.int .i64 1,.bool b,.int .i64 0,.string ByteArray.empty,.string ByteArray.empty,.slice none 0 0,.bool false,.slice none 0 0,.slice none 0 0,.slice none 0 0,.slice none 0 0] 39:=(hb2.block _ hq.out.lt).trans hq.out
 have x0:=hq2.cell 0 rfl
 have x1:=hq2.cell 1 rfl
 have x2:=hq2.cell 2 rfl
 have x3:=hq2.cell 3 rfl
 have x4:=hq2.cell 4 rfl
 have x5:=hq2.cell 5 rfl
 have x6:=hq2.cell 6 rfl
 have x7:=hq2.cell 7 rfl
 have x8:=hq2.cell 8 rfl
 have x9:=hq2.cell 9 rfl
 have x10:=hq2.cell 10 rfl
 have x11:=hq2.cell 11 rfl
 have x12:=hq2.cell 12 rfl
 have hB:=Hd (hal.out.trans (hb2.mono hal.out.size))
 clear hal hb2 cV hq hq2
 go_wp2
 go_ret
 exact⟨rfl,hB.out⟩
theorem xcheck0_lit(w0 w:World)(hE:Env w0)(h0:Below w0.heap.size w0 w)(cb:Nat)(hcb:w0.heap.size≤cb)(l2:Int)(b:Bool)(hc:Blk w cb #[.int .i64 l2,.int .i64 0] 100):
 Calls Tryz.prog 51 #[.pointer (some ⟨cb,0,none⟩),.agg #[.int .i64 1,.string ByteArray.empty,.int .i64 1,.bool b,.int .i64 0,.string ByteArray.empty,.string ByteArray.empty,.slice none 0 0,.bool false,.slice none 0 0,.slice none 0 0,.slice none 0 0,.slice none 0 0],.int .i64 1,.bool false] w fun e w'=>e=.returned (.bool true)∧Below w0.heap.size w0 w':=by
 have hq:=Blk.new w #[.int .i64 1,.string ByteArray.empty,.int .i64 1,.bool b,.int .i64 0,.string ByteArray.empty,.string ByteArray.empty,.slice none 0 0,.bool false,.slice none 0 0,.slice none 0 0,.slice none 0 0,.slice none 0 0] 39
 have hca:=hc.alloc (.cells #[.int .i64 1,.string ByteArray.empty,.int .i64 1,.bool b,.int .i64 0,.string ByteArray.empty,.string ByteArray.empty,.slice none 0 0,.bool false,.slice none 0 0,.slice none 0 0,.slice none 0 0,.slice none 0 0] 39)
 have hne:cb≠w.heap.size:=by have:=hc.lt;omega
 have hc2:=hca.set 1 (.int .i64 1)
 have hq2:=hq.set_other ⟨cb,1,none⟩ (fun e=>hne e.symm) (.int .i64 1)
 have hb2:=(h0.alloc h0.size (.cells #[.int .i64 1,.string ByteArray.empty,.int .i64 1,.bool b,.int .i64 0,.string ByteArray.empty,.string ByteArray.empty,.slice none 0 0,.bool false,.slice none 0 0,.slice none 0 0,.slice none 0 0,.slice none 0 0] 39)).setCell (p:=⟨cb,1,none⟩) hcb (.int .i64 1)
 have f1:=hca.free 1
 have z0:=hca.cell 0 rfl
 have z1:=hca.cell 1 rfl
 replace hc2:=Hd hc2
 replace hq2:=Hd hq2
 replace hb2:=Hd hb2
 have hne2:=Hd hne
 clear hq hca hne h0 hc
 go_enter Tryz.func51,Tryz.ntmps51
 go_upto_region 2 with fail
 clear f1 z0 z1
 obtain⟨p,hp⟩:∃p,w.heap.size=p:=⟨_,rfl⟩
 rw[hp]at hq2
 try rw[hp]
 generalize (w.alloc (.cells #[.int .i64 1,.string ByteArray.empty,.int .i64 1,.bool b,.int .i64 0,.string ByteArray.empty,.string ByteArray.empty,.slice none 0 0,.bool false,.slice none 0 0,.slice none 0 0,.slice none 0 0,.slice none 0 0] 39)).setCell ⟨cb,1,none⟩ (.int .i64 1)=w1 at *
 have hq1:=hq2.out
 have x0:=hq1.cell 0 rfl
 have x1:=hq1.cell 1 rfl
 have x2:=hq1.cell 2 rfl
 have x3:=hq1.cell 3 rfl
 have x4:=hq1.cell 4 rfl
 have x5:=hq1.cell 5 rfl
 have x6:=hq1.cell 6 rfl
 have x7:=hq1.cell 7 rfl
 have x8:=hq1.cell 8 rfl
 have x9:=hq1.cell 9 rfl
 have x10:=hq1.cell 10 rfl
 have x11:=hq1.cell 11 rfl
 have x12:=hq1.cell 12 rfl
 have z0:=hc2.out.cell 0 rfl
 have z1:=hc2.out.cell 1 rfl
 replace hp:=Hd hp
 replace hq1:=Hd hq1
 go_upto_region 4 with fail
 have hd:Below w1.heap.size w1 w1.drew:=below_drewN (Below.refl _ _) 1
 have hS0:Blk w1.drew p #[.int .i64 1,.string ByteArray.empty,.int .i64 1,.bool b,.int .i64 0,.string ByteArray.empty,.string ByteArray.empty,.slice none 0 0,.bool false,.slice none 0 0,.slice none 0 0,.slice none 0 0,.slice none 0 0] 39∧Blk w1.drew cb #[.int .i64 l2,.int .i64 1] 100:=⟨hq2.out,hc2.out⟩
 have hb3:=Hd (hb2.out.trans (hd.mono hb2.out.size))
 clear x0 x1 x2 x3 x4 x5 x6 x7 x8 x9 x10 x11 x12
 clear z0 z1 hd hq1
 refine wp_region_held_drew (S:=fun V=>Blk V p #[.int .i64 1,.string ByteArray.empty,.int .i64 1,.bool b,.int .i64 0,.string ByteArray.empty,.string ByteArray.empty,.slice none 0 0,.bool false,.slice none 0 0,.slice none 0 0,.slice none 0 0,.slice none 0 0] 39∧Blk V cb #[.int .i64 l2,.int .i64 1] 100) (by kernel_rfl) hS0 (fun hS=>?_)
 generalize w1.drew=V0 at *
 refine tkS [0,1,2,3,4] ?_
 iterate 5
  refine tkC ?_ rfl (fun w' hS=>?_) hS ?_
  rotate_left
  ·
   have z0:=hS.2.cell 0 rfl;have z1:=hS.2.cell 1 rfl;have hs1:=hS.1;have x0:=hs1.cell 0 rfl;have x1:=hs1.cell 1 rfl;have x2:=hs1.cell 2 rfl;have x3:=hs1.cell 3 rfl;have x4:=hs1.cell 4 rfl;have x5:=hs1.cell 5 rfl;have x6:=hs1.cell 6 rfl;have x7:=hs1.cell 7 rfl;have x8:=hs1.cell 8 rfl;have x9:=hs1.cell 9 rfl;have x10:=hs1.cell 10 rfl;have x11:=hs1.cell 11 rfl;have x12:=hs1.cell 12 rfl
   go_simp
   try with_reducible rfl
 refine rdH 5 rfl (fun K hK=>?_)
 clear hS
 go_simp
 refine(xtakes_lit V0 l2 b).mono ?_
 rintro e w2 ⟨rfl,hb4⟩
 go_wp2_with fail
 refine hKo hK (⟨(hb4.block _ hS0.1.lt).trans hS0.1,(hb4.block _ hS0.2.lt).trans hS0.2⟩) (fun hS=>?_)
 clear hK K
 have hq3:Blk w2 p #[.int .i64 1,.string ByteArray.empty,.int .i64 1,.bool b,.int .i64 0,.string ByteArray.empty,.string ByteArray.empty,.slice none 0 0,.bool false,.slice none 0 0,.slice none 0 0,.slice none 0 0,.slice none 0 0] 39:=(hb4.block _ hS0.1.lt).trans hS0.1
 have hb5:=Hd (hb3.out.trans (hb4.mono hb3.out.size))
 clear hb4 hS0 hq2 hc2
 refine tkS [6,7,8,9,10,11,12] ?_
 iterate 7
  refine tkC ?_ rfl (fun w' hS=>?_) hS ?_
  rotate_left
  ·
   skip
   go_simp
   try with_reducible rfl
 refine wpAnyH_done (by kernel_rfl) ?_ _
 clear hS
 have x0:=hq3.cell 0 rfl
 have x1:=hq3.cell 1 rfl
 have x2:=hq3.cell 2 rfl
 have x3:=hq3.cell 3 rfl
 have x4:=hq3.cell 4 rfl
 have x5:=hq3.cell 5 rfl
 have x6:=hq3.cell 6 rfl
 have x7:=hq3.cell 7 rfl
 have x8:=hq3.cell 8 rfl
 have x9:=hq3.cell 9 rfl
 have x10:=hq3.cell 10 rfl
 have x11:=hq3.cell 11 rfl
 have x12:=hq3.cell 12 rfl
 have cF:=Hd (xfields_lit w2 (hE.below hb5.out) b)
 replace hq3:=Hd hq3
 go_wp2_with fail
 refine cF.out.mono ?_
 rintro e w3 ⟨rfl,hb6⟩
 clear x0 x1 x2 x3 x4 x5 x6 x7 x8 x9 x10 x11 x12
 have hq4:Blk w3 p #[.int .i64 1,.string ByteArray.empty,.int .i64 1,.bool b,.int .i64 0,.string ByteArray.empty,.string ByteArray.empty,.slice none 0 0,.bool false,.slice none 0 0,.slice none 0 0,.slice none 0 0,.slice none 0 0] 39:=(hb6.block _ hq3.out.lt).trans hq3.out
 have hB:=Hd (hb5.out.trans (hb6.mono hb5.out.size))
 have x0:=hq4.cell 0 rfl
 have x1:=hq4.cell 1 rfl
 have x2:=hq4.cell 2 rfl
 have x3:=hq4.cell 3 rfl
 have x4:=hq4.cell 4 rfl
 have x5:=hq4.cell 5 rfl
 have x6:=hq4.cell 6 rfl
 have x7:=hq4.cell 7 rfl
 have x8:=hq4.cell 8 rfl
 have x9:=hq4.cell 9 rfl
 have x10:=hq4.cell 10 rfl
 have x11:=hq4.cell 11 rfl
 have x12:=hq4.cell 12 rfl
 clear hb6 cF hq3 hq4 hb5 hb3
 go_wp2
 go_loop [72] (fun v=>v=.int .i64 0) (fun _=>0)
 case atStart=>rfl
 case round=>
  subst hrel
  go_wp2
  go_ret
  exact⟨rfl,hB.out⟩
theorem xcheck_lit(w:World)(hE:Env w)(lang:Int)(b:Bool):Calls Tryz.prog 25 #[.int .i64 lang,.agg #[.int .i64 1,.string ByteArray.empty,.int .i64 1,.bool b,.int .i64 0,.string ByteArray.empty,.string ByteArray.empty,.slice none 0 0,.bool false,.slice none 0 0,.slice none 0 0,.slice none 0 0,.slice none 0 0]] w fun e w'=>e=.returned (.bool true)∧Below w.heap.size w w':=by
 obtain⟨l2,hl2⟩:∃l2:Int,(if lang=1 then 1 else 0)=l2:=⟨_,rfl⟩
 have hq:=Blk.new w #[.int .i64 1,.string ByteArray.empty,.int .i64 1,.bool b,.int .i64 0,.string ByteArray.empty,.string ByteArray.empty,.slice none 0 0,.bool false,.slice none 0 0,.slice none 0 0,.slice none 0 0,.slice none 0 0] 39
 have hal:Below w.heap.size w ((w.alloc (.cells #[.int .i64 1,.string ByteArray.empty,.int .i64 1,.bool b,.int .i64 0,.string ByteArray.empty,.string ByteArray.empty,.slice none 0 0,.bool false,.slice none 0 0,.slice none 0 0,.slice none 0 0,.slice none 0 0] 39)).alloc (.cells #[.int .i64 l2,.int .i64 0] 100)):=((Below.refl _ _).alloc (Nat.le_refl _) _).alloc (by rw[World.size_alloc];omega) _
 have hc:=Blk.new (w.alloc (.cells #[.int .i64 1,.string ByteArray.empty,.int .i64 1,.bool b,.int .i64 0,.string ByteArray.empty,.string ByteArray.empty,.slice none 0 0,.bool false,.slice none 0 0,.slice none 0 0,.slice none 0 0,.slice none 0 0] 39)) #[.int .i64 l2,.int .i64 0] 100
 rw[World.size_alloc]at hc
 have cC:=Hd (xcheck0_lit w _ hE hal (w.heap.size+1) (by omega) l2 b hc)
 have hqa:=hq.alloc (.cells #[.int .i64 l2,.int .i64 0] 100)
 have x0:=hqa.cell 0 rfl
 have x1:=hqa.cell 1 rfl
 have x2:=hqa.cell 2 rfl
 have x3:=hqa.cell 3 rfl
 have x4:=hqa.cell 4 rfl
 have x5:=hqa.cell 5 rfl
 have x6:=hqa.cell 6 rfl
 have x7:=hqa.cell 7 rfl
 have x8:=hqa.cell 8 rfl
 have x9:=hqa.cell 9 rfl
 have x10:=hqa.cell 10 rfl
 have x11:=hqa.cell 11 rfl
 have x12:=hqa.cell 12 rfl
 have cL:=xlang_any (w.alloc (.cells #[.int .i64 1,.string ByteArray.empty,.int .i64 1,.bool b,.int .i64 0,.string ByteArray.empty,.string ByteArray.empty,.slice none 0 0,.bool false,.slice none 0 0,.slice none 0 0,.slice none 0 0,.slice none 0 0] 39)) lang
 rw[hl2]at cL
 replace cL:=Hd cL
 replace hl2:=Hd hl2
 clear hq hqa hal hc
 go_enter Tryz.func25,Tryz.ntmps25
 go_wp2_with fail
 refine cL.out.mono ?_
 rintro e w2 ⟨rfl,rfl⟩
 clear cL
 go_wp2_with fail
 refine cC.out.mono ?_
 rintro e w3 ⟨rfl,hb⟩
 replace hb:=Hd hb
 clear x0 x1 x2 x3 x4 x5 x6 x7 x8 x9 x10 x11 x12
 clear cC
 go_wp2
 go_ret
 exact⟨rfl,hb.out⟩
end Go.Proofs.YtmpldjbdhbapbaaGreatDoor.tab
