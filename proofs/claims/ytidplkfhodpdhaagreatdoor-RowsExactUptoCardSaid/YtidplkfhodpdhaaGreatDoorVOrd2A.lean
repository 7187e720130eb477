/- Texts VOrd2, RsCmp, one behind the other. -/
import Derived.Test.YtidplkfhodpdhaaGreatDoorVNumA
set_option linter.unusedSimpArgs false
set_option linter.unusedVariables false
set_option maxRecDepth 100000
set_option maxHeartbeats 4000000
namespace Go.Proofs.YtidplkfhodpdhaaGreatDoor.val
open Go.ChangeShapes Go.WideShapes Go.ChangeAt Go.RowKit kit dec
theorem below_drewO(w:World):Below w.heap.size w w.drew:=below_drewN (Below.refl _ _) 1
structure B3(w W:World)(lang:Int)(c d:Array Value):Prop where
 below:Below w.heap.size w W
 b0:Blk W w.heap.size #[.int .i64 lang] 3
 b1:Blk W (w.heap.size+1) c 52
 b2:Blk W (w.heap.size+1+1) d 52
theorem B3.made(w:World)(lang:Int)(c d:Array Value):B3 w (((w.alloc (.cells #[.int .i64 lang] 3)).alloc (.cells c 52)).alloc (.cells d 52)) lang c d:=by
 refine⟨((((Keep.refl [] w).alloc _).alloc _).alloc _).below,((Blk.new _ _ _).alloc _).alloc _,?_,?_⟩
 ·have:=(Blk.new (w.alloc (.cells #[.int .i64 lang] 3)) c 52).alloc (.cells d 52)
  rwa [World.size_alloc]at this
 ·have:=Blk.new ((w.alloc (.cells #[.int .i64 lang] 3)).alloc (.cells c 52)) d 52
  rwa [World.size_alloc,World.size_alloc]at this
theorem B3.on{w W W':World}{lang:Int}{c d:Array Value}(h:B3 w W lang c d)(hb:Below W.heap.size W W'):B3 w W' lang c d:=⟨h.below.trans (hb.mono h.below.size),h.b0.keep (Keep.ofBelow hb) (by simp),h.b1.keep (Keep.ofBelow hb) (by simp),h.b2.keep (Keep.ofBelow hb) (by simp)⟩
theorem B3.cells{w W:World}{lang:Int}{c0 c1 c2 c3 c4 c5 d0 d1 d2 d3 d4 d5:Value}(h:B3 w W lang #[c0,c1,c2,c3,c4,c5] #[d0,d1,d2,d3,d4,d5]):
 W.cell? ⟨w.heap.size,0,none⟩=some (.int .i64 lang)∧W.cell? ⟨w.heap.size+1,0,none⟩=some c0∧W.cell? ⟨w.heap.size+1,1,none⟩=some c1∧W.cell? ⟨w.heap.size+1,2,none⟩=some c2∧W.cell? ⟨w.heap.size+1,3,none⟩=some c3∧W.cell? ⟨w.heap.size+1,4,none⟩=some c4∧W.cell? ⟨w.heap.size+1,5,none⟩=some c5 ∧
 W.cell? ⟨w.heap.size+1+1,0,none⟩=some d0∧W.cell? ⟨w.heap.size+1+1,1,none⟩=some d1∧W.cell? ⟨w.heap.size+1+1,2,none⟩=some d2∧W.cell? ⟨w.heap.size+1+1,3,none⟩=some d3∧W.cell? ⟨w.heap.size+1+1,4,none⟩=some d4∧W.cell? ⟨w.heap.size+1+1,5,none⟩=some d5:=
 ⟨h.b0.cell 0 rfl,h.b1.cell 0 rfl,h.b1.cell 1 rfl,h.b1.cell 2 rfl,h.b1.cell 3 rfl,h.b1.cell 4 rfl,h.b1.cell 5 rfl,h.b2.cell 0 rfl,h.b2.cell 1 rfl,h.b2.cell 2 rfl,h.b2.cell 3 rfl,h.b2.cell 4 rfl,h.b2.cell 5 rfl⟩
theorem order_all(N:Nat)(hN:N≤9223372036854775807)(lang:Int):∀m,OrdX N m lang:=by
 intro m
 induction m with
 |zero=>intro w hE k b n hn t x s l k2 bb n2 hn2 t2 x2 s2 l2 hm;omega
 | succ m ih =>
  intro w hE k b n hn t x s l k2 bb n2 hn2 t2 x2 s2 l2 hm ha ha2
  have h3:=B3.made w lang #[.int .i64 k,.bool b,.int .i64 n,.string t,.string x,s] #[.int .i64 k2,.bool bb,.int .i64 n2,.string t2,.string x2,s2]
  have hcmp:∀W,Below w.heap.size w W→Calls Tryz.prog 102 #[agg6 k b n t x s,agg6 k2 bb n2 t2 x2 s2] W fun e w'=>e=.returned (.int .i64 (cmpI (numV k n t) (numV k2 n2 t2)))∧Below W.heap.size W w':=fun W hb=>compare_call k b n hn t x s k2 bb n2 hn2 t2 x2 s2 W (hE.below hb)
  have hcf:∀W,Below w.heap.size w W→W.cell? ⟨w.heap.size,0,none⟩=some (.int .i64 lang)→Calls Tryz.prog 104 #[s,s2,.func (.func 105) #[] #[.pointer (some ⟨w.heap.size,0,none⟩)]] W fun e w'=>e=.returned (.int .i64 (ordL (decide (lang=1)) l l2))∧Below W.heap.size W w':=
   fun W hb hc=>compareFunc_call N m hN lang ih W (hE.below hb) w.heap.size hc s s2 l l2 (by omega) (ha.stay hb) (ha2.stay hb)
  have hr1:=fun W=>rank_any lang k b n t x s W
  have hr2:=fun W=>rank_any lang k2 bb n2 t2 x2 s2 W
  have hord:=ordV_mk (decide (lang=1)) k b n t x l k2 bb n2 t2 x2 l2
  obtain⟨ao,cap,rfl⟩:=LA.form6 ha
  obtain⟨ao2,cap2,rfl⟩:=LA.form6 ha2
  rw[hord]
  clear ha ha2 hE ih hord
  have hcl:=fun(h:rankV (decide (lang=1)) k=rankV (decide (lang=1)) k2)=>cls h
  generalize rankV (decide (lang=1)) k=r1 at *
  generalize rankV (decide (lang=1)) k2=r2 at *
  generalize ordL (decide (lang=1)) l l2=oL at *
  have hRn:r1≠r2→cmpI r1 r2=orI (cmpI r1 r2) (restV k n b t x oL k2 n2 bb t2 x2):=fun e=>by unfold orI;rw[if_neg (fun h=>e ((cmpI_zero _ _).1 h))]
  have hRe:r1=r2→restV k n b t x oL k2 n2 bb t2 x2=orI (cmpI r1 r2) (restV k n b t x oL k2 n2 bb t2 x2):=fun e=>by rw[e,cmpI_self];rfl
  generalize orI (cmpI r1 r2) (restV k n b t x oL k2 n2 bb t2 x2)=R at *
  replace hRn:=Hd hRn
  replace hRe:=Hd hRe
  unfold agg6 at hcmp hr1 hr2 ⊢
  replace hcmp:=Hd hcmp
  replace hcf:=Hd hcf
  replace hcl:=Hd hcl
  replace hr1:=Hd hr1
  replace hr2:=Hd hr2
  go_enter Tryz.func65,Tryz.ntmps65
  go_upto_region 1 with fail
  generalize hs1:Value.slice ao l.length cap=s at *
  generalize hs2:Value.slice ao2 l2.length cap2=s2 at *
  replace hs1:=Hd hs1
  replace hs2:=Hd hs2
  have hd:=h3.on (below_drewO _)
  generalize ((w.alloc (.cells #[.int .i64 lang] 3)).alloc (.cells #[.int .i64 k,.bool b,.int .i64 n,.string t,.string x,s] 52)).alloc (.cells #[.int .i64 k2,.bool bb,.int .i64 n2,.string t2,.string x2,s2] 52)=W1 at *
  refine wp_region_held_drew (S:=fun V=>B3 w V lang #[.int .i64 k,.bool b,.int .i64 n,.string t,.string x,s] #[.int .i64 k2,.bool bb,.int .i64 n2,.string t2,.string x2,s2]) (by kernel_rfl) hd (fun hS=>?_)
  have hV:=hd
  clear hd h3
  generalize W1.drew=V0 at *
  refine tkH 0 ?_ rfl (fun w' hS=>?_) hS ?_
  rotate_left
  ·
   have l0:=hS.b0.cell 0 rfl
   go_simp
   try with_reducible rfl
  refine tkH 1 ?_ rfl (fun w' hS=>?_) hS ?_
  rotate_left
  ·
   have x0:=hS.b1.cell 0 rfl
   have x1:=hS.b1.cell 1 rfl
   have x2c:=hS.b1.cell 2 rfl
   have x3:=hS.b1.cell 3 rfl
   have x4:=hS.b1.cell 4 rfl
   have x5:=hS.b1.cell 5 rfl
   go_simp
   try with_reducible rfl
  refine tkH 3 ?_ rfl (fun w' hS=>?_) hS ?_
  rotate_left
  ·
   have l0:=hS.b0.cell 0 rfl
   go_simp
   try with_reducible rfl
  refine tkH 4 ?_ rfl (fun w' hS=>?_) hS ?_
  rotate_left
  ·
   have y0:=hS.b2.cell 0 rfl
   have y1:=hS.b2.cell 1 rfl
   have y2:=hS.b2.cell 2 rfl
   have y3:=hS.b2.cell 3 rfl
   have y4:=hS.b2.cell 4 rfl
   have y5:=hS.b2.cell 5 rfl
   go_simp
   try with_reducible rfl
  refine rdH 2 rfl (fun K hK=>?_)
  clear hS
  go_simp
  refine(hr1.out _).mono ?_
  rintro e w5 ⟨rfl,hb5⟩
  go_wp2_with fail
  refine hKo hK (hV.on hb5) (fun hS=>?_)
  clear hK K
  have hV5:=hV.on hb5
  refine rdH 5 rfl (fun K hK=>?_)
  clear hS
  go_simp
  refine(hr2.out _).mono ?_
  rintro e w6 ⟨rfl,hb6⟩
  go_wp2_with fail
  refine hKo hK (hV5.on hb6) (fun hS=>?_)
  clear hK K
  have hV6:=hV5.on hb6
  refine rdH 6 rfl (fun K hK=>?_)
  clear hS
  go_simp
  refine(cmpInt_any _ _ _).mono ?_
  rintro e w' ⟨rfl,hw'⟩
  rw[hw']
  clear hw'
  go_wp2_with fail
  refine hKo hK hV6 (fun hS=>?_)
  clear hK K
  refine tkH 7 ?_ rfl (fun w' hS=>?_) hS ?_
  rotate_left
  ·
   skip
   go_simp
   try with_reducible rfl
  refine wpAnyH_done (by kernel_rfl) ?_ _
  clear hS hb5 hb6 hV hV5 hr1 hr2
  by_cases hrr:r1=r2
  case neg=>
   have hcb:(cmpI r1 r2 != 0)=true:=bne_iff_ne.2 fun e=>hrr ((cmpI_zero _ _).1 e)
   have hR:=Hd (hRn.out hrr)
   have hbe:=Hd hV6.below
   generalize cmpI r1 r2=c at *
   clear hV6 hcl hRn hRe
   go_wp2
   go_ret
   exact⟨ret_int hR.out,hbe.out⟩
  have hcc:=Hd (hcl.out hrr)
  have hR:=Hd (hRe.out hrr)
  have hcb:(cmpI r1 r2 != 0)=false:=by rw[hrr,cmpI_self];rfl
  generalize cmpI r1 r2=c0 at *
  clear hcl hRn hRe hrr
  have cv:=hV6
  clear hV6
  obtain⟨l0,x0,x1,x2c,x3,x4,x5,y0,y1,y2,y3,y4,y5⟩:=cv.cells
  rcases kinds k with rfl|rfl|rfl|rfl|rfl|rfl|rfl|rfl|rfl|rfl|rfl|⟨h0,h1,h2,h3,h4,h5,h6,h7,h8,h9,h10⟩
  ·have hR2:orI (cmpT t t2) (cmpT x x2)=R:=by rw[←hR.out];simp[restV,isNum]
   replace hR2:=Hd hR2
   clear hR hcc
   have hpt:=Hd (fun W=>part_any (0) b n t x s W)
   unfold partV agg6 at hpt
   simp only[if_true,Int.reduceEq,reduceCtorEq,if_false,or_true,true_or,or_false,or_self]at hpt
   go_wp2_with fail
   refine(hpt.out _).mono ?_
   rintro e w3 ⟨rfl,hb3⟩
   clear hpt x0 x1 x2c x3 x4 x5 y0 y1 y2 y3 y4 y5 l0
   have c3:=cv.on hb3
   clear hb3 cv
   obtain⟨l0,x0,x1,x2c,x3,x4,x5,y0,y1,y2,y3,y4,y5⟩:=c3.cells
   replace c3:=Hd c3
   have tb0:=tb_0_0
   have tb1:=tb_0_1
   have tb2:=tb_0_2
   have tb3:=tb_0_3
   have tb4:=tb_0_4
   have tb5:=tb_0_5
   have tb6:=tb_0_6
   have tb7:=tb_0_7
   have tb8:=tb_0_8
   go_upto_region 22 with fail
   clear tb0 tb1 tb2 tb3 tb4 tb5 tb6 tb7 tb8
   clear x0 x1 x2c x3 x4 x5 y0 y1 y2 y3 y4 y5 l0
   have c4:=c3.out.on (below_drewO _)
   clear c3
   refine wp_region_held_drew (S:=fun V=>B3 w V lang #[.int .i64 0,.bool b,.int .i64 n,.string t,.string x,s] #[.int .i64 k2,.bool bb,.int .i64 n2,.string t2,.string x2,s2]) (by kernel_rfl) c4 (fun hS=>?_)
   have hV:=c4
   clear c4
   generalize w3.drew=V1 at *
   refine tkS [0,1,2,3] ?_
   iterate 4
    refine tkC ?_ rfl (fun w' hS=>?_) hS ?_
    rotate_left
    ·
     obtain⟨l0,x0,x1,x2c,x3,x4,x5,y0,y1,y2,y3,y4,y5⟩:=hS.cells
     go_simp
     try with_reducible rfl
   refine tkS [5,6,7,8] ?_
   iterate 4
    refine tkC ?_ rfl (fun w' hS=>?_) hS ?_
    rotate_left
    ·
     obtain⟨l0,x0,x1,x2c,x3,x4,x5,y0,y1,y2,y3,y4,y5⟩:=hS.cells
     go_simp
     try with_reducible rfl
   refine rdH 4 rfl (fun K hK=>?_)
   clear hS
   go_simp
   refine(cmpStr_any _ _ _).mono ?_
   rintro e w' ⟨rfl,hw'⟩
   rw[hw']
   clear hw'
   go_wp2_with fail
   refine hKo hK (hV) (fun hS=>?_)
   clear hK K
   refine rdH 9 rfl (fun K hK=>?_)
   clear hS
   go_simp
   refine(cmpStr_any _ _ _).mono ?_
   rintro e w' ⟨rfl,hw'⟩
   rw[hw']
   clear hw'
   go_wp2_with fail
   refine hKo hK (hV) (fun hS=>?_)
   clear hK K
   refine rdH 10 rfl (fun K hK=>?_)
   clear hS
   go_simp
   go_wp2_with fail
   have hal:=hV.on ((Below.refl _ _).alloc (Nat.le_refl _) _:Below V1.heap.size V1 (V1.alloc (.cells #[.int .i64 (cmpT t t2),.int .i64 (cmpT x x2)] 3)))
   have hq:Blk (V1.alloc (.cells #[.int .i64 (cmpT t t2),.int .i64 (cmpT x x2)] 3)) V1.heap.size #[.int .i64 (cmpT t t2),.int .i64 (cmpT x x2)] 3:=Blk.new _ _ _
   refine hKo hK hal (fun hS=>?_)
   clear hK K hV
   have hor:=or_any V1.heap.size _ _ _ (hq.cell 0 rfl) (hq.cell 1 rfl)
   generalize V1.alloc (.cells #[.int .i64 (cmpT t t2),.int .i64 (cmpT x x2)] 3)=V2 at *
   clear hq
   replace hor:=Hd hor
   refine rdH 11 rfl (fun K hK=>?_)
   clear hS
   go_simp
   refine(hor.out).mono ?_
   rintro e w' ⟨rfl,hw'⟩
   rw[hw']
   clear hw'
   go_wp2_with fail
   refine hKo hK (hal) (fun hS=>?_)
   clear hK K
   refine tkH 12 ?_ rfl (fun w' hS=>?_) hS ?_
   rotate_left
   ·
    skip
    go_simp
    try with_reducible rfl
   refine wpAnyH_done (by kernel_rfl) ?_ _
   clear hS hor
   have hbe:=Hd hal.below
   clear hal
   go_wp2
   go_ret
   exact⟨ret_int hR2.out,hbe.out⟩
  ·have hR2:cmpI (b2i b) (b2i bb)=R:=by rw[←hR.out];simp[restV,isNum]
   replace hR2:=Hd hR2
   clear hR hcc
   have htr:∀(c:Bool) (W:World),Calls Tryz.prog 107 #[.bool c] W fun e w'=>e=.returned (.int .i64 (b2i c))∧w'=W:=fun c W=>truth_any c W
   replace htr:=Hd htr
   have hpt:=Hd (fun W=>part_any (1) b n t x s W)
   unfold partV agg6 at hpt
   simp only[if_true,Int.reduceEq,reduceCtorEq,if_false,or_true,true_or,or_false,or_self]at hpt
   go_wp2_with fail
   refine(hpt.out _).mono ?_
   rintro e w3 ⟨rfl,hb3⟩
   clear hpt x0 x1 x2c x3 x4 x5 y0 y1 y2 y3 y4 y5 l0
   have c3:=cv.on hb3
   clear hb3 cv
   obtain⟨l0,x0,x1,x2c,x3,x4,x5,y0,y1,y2,y3,y4,y5⟩:=c3.cells
   replace c3:=Hd c3
   have tb0:=tb_1_0
   have tb1:=tb_1_1
   have tb2:=tb_1_2
   have tb3:=tb_1_3
   have tb4:=tb_1_4
   have tb5:=tb_1_5
   have tb6:=tb_1_6
   have tb7:=tb_1_7
   have tb8:=tb_1_8
   go_upto_region 21 with fail
   clear tb0 tb1 tb2 tb3 tb4 tb5 tb6 tb7 tb8
   clear x0 x1 x2c x3 x4 x5 y0 y1 y2 y3 y4 y5 l0
   have c4:=c3.out.on (below_drewO _)
   clear c3
   refine wp_region_held_drew (S:=fun V=>B3 w V lang #[.int .i64 1,.bool b,.int .i64 n,.string t,.string x,s] #[.int .i64 k2,.bool bb,.int .i64 n2,.string t2,.string x2,s2]) (by kernel_rfl) c4 (fun hS=>?_)
   have hV:=c4
   clear c4
   generalize w3.drew=V1 at *
   refine tkS [0,1,3,4] ?_
   iterate 4
    refine tkC ?_ rfl (fun w' hS=>?_) hS ?_
    rotate_left
    ·
     obtain⟨l0,x0,x1,x2c,x3,x4,x5,y0,y1,y2,y3,y4,y5⟩:=hS.cells
     go_simp
     try with_reducible rfl
   refine rdH 2 rfl (fun K hK=>?_)
   clear hS
   go_simp
   refine(htr.out _ _).mono ?_
   rintro e w' ⟨rfl,hw'⟩
   rw[hw']
   clear hw'
   go_wp2_with fail
   refine hKo hK (hV) (fun hS=>?_)
   clear hK K
   refine rdH 5 rfl (fun K hK=>?_)
   clear hS
   go_simp
   refine(htr.out _ _).mono ?_
   rintro e w' ⟨rfl,hw'⟩
   rw[hw']
   clear hw'
   go_wp2_with fail
   refine hKo hK (hV) (fun hS=>?_)
   clear hK K
   refine rdH 6 rfl (fun K hK=>?_)
   clear hS
   go_simp
   refine(cmpInt_any _ _ _).mono ?_
   rintro e w' ⟨rfl,hw'⟩
   rw[hw']
   clear hw'
   go_wp2_with fail
   refine hKo hK (hV) (fun hS=>?_)
   clear hK K
   refine tkH 7 ?_ rfl (fun w' hS=>?_) hS ?_
   rotate_left
   ·
    skip
    go_simp
    try with_reducible rfl
   refine wpAnyH_done (by kernel_rfl) ?_ _
   clear hS
   have hbe:=Hd hV.below
   clear hV
   go_wp2
   go_ret
   exact⟨ret_int hR2.out,hbe.out⟩
  ·
   have hpt:=Hd (fun W=>part_any (2) b n t x s W)
   unfold partV agg6 at hpt
   simp only[if_true,Int.reduceEq,reduceCtorEq,if_false,or_true,true_or,or_false,or_self]at hpt
   go_wp2_with fail
   refine(hpt.out _).mono ?_
   rintro e w3 ⟨rfl,hb3⟩
   clear hpt x0 x1 x2c x3 x4 x5 y0 y1 y2 y3 y4 y5 l0
   have c3:=cv.on hb3
   clear hb3 cv
   obtain⟨l0,x0,x1,x2c,x3,x4,x5,y0,y1,y2,y3,y4,y5⟩:=c3.cells
   replace c3:=Hd c3
   have tb0:=tb_2_0
   have tb1:=tb_2_1
   have tb2:=tb_2_2
   have tb3:=tb_2_3
   have tb4:=tb_2_4
   have tb5:=tb_2_5
   have tb6:=tb_2_6
   have tb7:=tb_2_7
   have tb8:=tb_2_8
   go_wp2_with fail
   refine(hcmp.out _ c3.out.below).mono ?_
   rintro e w4 ⟨rfl,hb4⟩
   have c4:=c3.out.on hb4
   clear c3 hb4 hcmp x0 x1 x2c x3 x4 x5 y0 y1 y2 y3 y4 y5 l0
   obtain⟨l0,x0,x1,x2c,x3,x4,x5,y0,y1,y2,y3,y4,y5⟩:=c4.cells
   replace c4:=Hd c4
   by_cases hQ:cmpI (numV 2 n t) (numV k2 n2 t2)=0
   case neg=>
    have hR2:cmpI (numV 2 n t) (numV k2 n2 t2)=R:=by rw[←hR.out];unfold restV;rw[if_pos (show isNum 2=true by decide)];unfold orI;rw[if_neg hQ]
    have hQb:(cmpI (numV 2 n t) (numV k2 n2 t2) != 0)=true:=bne_iff_ne.2 hQ
    replace hR2:=Hd hR2
    clear hR hcc hQ
    generalize cmpI (numV 2 n t) (numV k2 n2 t2)=Q at *
    go_wp2
    go_ret
    exact⟨ret_int hR2.out,c4.out.below⟩
   have hR2:(if((2:Int)=2∨k2=2) then cmpI 2 k2 else cmpT t t2)=R:=by rw[←hR.out];unfold restV;rw[if_pos (show isNum 2=true by decide)];unfold orI;rw[if_pos hQ]
   have hQb:(cmpI (numV 2 n t) (numV k2 n2 t2) != 0)=false:=by rw[hQ];rfl
   clear hR hcc hQ
   generalize cmpI (numV 2 n t) (numV k2 n2 t2)=Q at *
   rw[if_pos (.inl rfl)]at hR2
   replace hR2:=Hd hR2
   go_wp2_with (first|(go_at_call 99;refine(cmpInt_any _ _ _).mono ?_;rintro e w' ⟨rfl,hw'⟩;rw[hw'];clear hw')|(go_at_call 103;refine(cmpStr_any _ _ _).mono ?_;rintro e w' ⟨rfl,hw'⟩;rw[hw'];clear hw'))
   go_ret
   exact⟨ret_int hR2.out,c4.out.below⟩
  ·
   have hpt:=Hd (fun W=>part_any (3) b n t x s W)
   unfold partV agg6 at hpt
   simp only[if_true,Int.reduceEq,reduceCtorEq,if_false,or_true,true_or,or_false,or_self]at hpt
   go_wp2_with fail
   refine(hpt.out _).mono ?_
   rintro e w3 ⟨rfl,hb3⟩
   clear hpt x0 x1 x2c x3 x4 x5 y0 y1 y2 y3 y4 y5 l0
   have c3:=cv.on hb3
   clear hb3 cv
   obtain⟨l0,x0,x1,x2c,x3,x4,x5,y0,y1,y2,y3,y4,y5⟩:=c3.cells
   replace c3:=Hd c3
   have tb0:=tb_3_0
   have tb1:=tb_3_1
   have tb2:=tb_3_2
   have tb3:=tb_3_3
   have tb4:=tb_3_4
   have tb5:=tb_3_5
   have tb6:=tb_3_6
   have tb7:=tb_3_7
   have tb8:=tb_3_8
   go_wp2_with fail
   refine(hcmp.out _ c3.out.below).mono ?_
   rintro e w4 ⟨rfl,hb4⟩
   have c4:=c3.out.on hb4
   clear c3 hb4 hcmp x0 x1 x2c x3 x4 x5 y0 y1 y2 y3 y4 y5 l0
   obtain⟨l0,x0,x1,x2c,x3,x4,x5,y0,y1,y2,y3,y4,y5⟩:=c4.cells
   replace c4:=Hd c4
   by_cases hQ:cmpI (numV 3 n t) (numV k2 n2 t2)=0
   case neg=>
    have hR2:cmpI (numV 3 n t) (numV k2 n2 t2)=R:=by rw[←hR.out];unfold restV;rw[if_pos (show isNum 3=true by decide)];unfold orI;rw[if_neg hQ]
    have hQb:(cmpI (numV 3 n t) (numV k2 n2 t2) != 0)=true:=bne_iff_ne.2 hQ
    replace hR2:=Hd hR2
    clear hR hcc hQ
    generalize cmpI (numV 3 n t) (numV k2 n2 t2)=Q at *
    go_wp2
    go_ret
    exact⟨ret_int hR2.out,c4.out.below⟩
   have hR2:(if((3:Int)=2∨k2=2) then cmpI 3 k2 else cmpT t t2)=R:=by rw[←hR.out];unfold restV;rw[if_pos (show isNum 3=true by decide)];unfold orI;rw[if_pos hQ]
   have hQb:(cmpI (numV 3 n t) (numV k2 n2 t2) != 0)=false:=by rw[hQ];rfl
   clear hR hcc hQ
   generalize cmpI (numV 3 n t) (numV k2 n2 t2)=Q at *
   by_cases hk2:k2=2
   ·rw[if_pos (.inr hk2)]at hR2
    subst hk2
    replace hR2:=Hd hR2
    go_wp2_with (first|(go_at_call 99;refine(cmpInt_any _ _ _).mono ?_;rintro e w' ⟨rfl,hw'⟩;rw[hw'];clear hw')|(go_at_call 103;refine(cmpStr_any _ _ _).mono ?_;rintro e w' ⟨rfl,hw'⟩;rw[hw'];clear hw'))
    go_ret
    exact⟨ret_int hR2.out,c4.out.below⟩
   ·rw[if_neg (by omega)]at hR2
    have hk2b:(k2==2)=false:=beq_eq_false_iff_ne.2 hk2
    clear hk2
    replace hR2:=Hd hR2
    go_wp2_with (first|(go_at_call 99;refine(cmpInt_any _ _ _).mono ?_;rintro e w' ⟨rfl,hw'⟩;rw[hw'];clear hw')|(go_at_call 103;refine(cmpStr_any _ _ _).mono ?_;rintro e w' ⟨rfl,hw'⟩;rw[hw'];clear hw'))
    go_ret
    exact⟨ret_int hR2.out,c4.out.below⟩
  ·have hR2:orI (cmpT t t2) (cmpT x x2)=R:=by rw[←hR.out];simp[restV,isNum]
   replace hR2:=Hd hR2
   clear hR hcc
   have hpt:=Hd (fun W=>part_any (4) b n t x s W)
   unfold partV agg6 at hpt
   simp only[if_true,Int.reduceEq,reduceCtorEq,if_false,or_true,true_or,or_false,or_self]at hpt
   go_wp2_with fail
   refine(hpt.out _).mono ?_
   rintro e w3 ⟨rfl,hb3⟩
   clear hpt x0 x1 x2c x3 x4 x5 y0 y1 y2 y3 y4 y5 l0
   have c3:=cv.on hb3
   clear hb3 cv
   obtain⟨l0,x0,x1,x2c,x3,x4,x5,y0,y1,y2,y3,y4,y5⟩:=c3.cells
   replace c3:=Hd c3
   have tb0:=tb_4_0
   have tb1:=tb_4_1
   have tb2:=tb_4_2
   have tb3:=tb_4_3
   have tb4:=tb_4_4
   have tb5:=tb_4_5
   have tb6:=tb_4_6
   have tb7:=tb_4_7
   have tb8:=tb_4_8
   go_upto_region 22 with fail
   clear tb0 tb1 tb2 tb3 tb4 tb5 tb6 tb7 tb8
   clear x0 x1 x2c x3 x4 x5 y0 y1 y2 y3 y4 y5 l0
   have c4:=c3.out.on (below_drewO _)
   clear c3
   refine wp_region_held_drew (S:=fun V=>B3 w V lang #[.int .i64 4,.bool b,.int .i64 n,.string t,.string x,s] #[.int .i64 k2,.bool bb,.int .i64 n2,.string t2,.string x2,s2]) (by kernel_rfl) c4 (fun hS=>?_)
   have hV:=c4
   clear c4
   generalize w3.drew=V1 at *
   refine tkS [0,1,2,3] ?_
   iterate 4
    refine tkC ?_ rfl (fun w' hS=>?_) hS ?_
    rotate_left
    ·
     obtain⟨l0,x0,x1,x2c,x3,x4,x5,y0,y1,y2,y3,y4,y5⟩:=hS.cells
     go_simp
     try with_reducible rfl
   refine tkS [5,6,7,8] ?_
   iterate 4
    refine tkC ?_ rfl (fun w' hS=>?_) hS ?_
    rotate_left
    ·
     obtain⟨l0,x0,x1,x2c,x3,x4,x5,y0,y1,y2,y3,y4,y5⟩:=hS.cells
     go_simp
     try with_reducible rfl
   refine rdH 4 rfl (fun K hK=>?_)
   clear hS
   go_simp
   refine(cmpStr_any _ _ _).mono ?_
   rintro e w' ⟨rfl,hw'⟩
   rw[hw']
   clear hw'
   go_wp2_with fail
   refine hKo hK (hV) (fun hS=>?_)
   clear hK K
   refine rdH 9 rfl (fun K hK=>?_)
   clear hS
   go_simp
   refine(cmpStr_any _ _ _).mono ?_
   rintro e w' ⟨rfl,hw'⟩
   rw[hw']
   clear hw'
   go_wp2_with fail
   refine hKo hK (hV) (fun hS=>?_)
   clear hK K
   refine rdH 10 rfl (fun K hK=>?_)
   clear hS
   go_simp
   go_wp2_with fail
   have hal:=hV.on ((Below.refl _ _).alloc (Nat.le_refl _) _:Below V1.heap.size V1 (V1.alloc (.cells #[.int .i64 (cmpT t t2),.int .i64 (cmpT x x2)] 3)))
   have hq:Blk (V1.alloc (.cells #[.int .i64 (cmpT t t2),.int .i64 (cmpT x x2)] 3)) V1.heap.size #[.int .i64 (cmpT t t2),.int .i64 (cmpT x x2)] 3:=Blk.new _ _ _
   refine hKo hK hal (fun hS=>?_)
   clear hK K hV
   have hor:=or_any V1.heap.size _ _ _ (hq.cell 0 rfl) (hq.cell 1 rfl)
   generalize V1.alloc (.cells #[.int .i64 (cmpT t t2),.int .i64 (cmpT x x2)] 3)=V2 at *
   clear hq
   replace hor:=Hd hor
   refine rdH 11 rfl (fun K hK=>?_)
   clear hS
   go_simp
   refine(hor.out).mono ?_
   rintro e w' ⟨rfl,hw'⟩
   rw[hw']
   clear hw'
   go_wp2_with fail
   refine hKo hK (hal) (fun hS=>?_)
   clear hK K
   refine tkH 12 ?_ rfl (fun w' hS=>?_) hS ?_
   rotate_left
   ·
    skip
    go_simp
    try with_reducible rfl
   refine wpAnyH_done (by kernel_rfl) ?_ _
   clear hS hor
   have hbe:=Hd hal.below
   clear hal
   go_wp2
   go_ret
   exact⟨ret_int hR2.out,hbe.out⟩
  ·have hR2:oL=R:=by rw[←hR.out];simp[restV,isNum]
   replace hR2:=Hd hR2
   clear hR hcc
   have hpt:=Hd (fun W=>part_any (5) b n t x s W)
   unfold partV agg6 at hpt
   simp only[if_true,Int.reduceEq,reduceCtorEq,if_false,or_true,true_or,or_false,or_self]at hpt
   go_wp2_with fail
   refine(hpt.out _).mono ?_
   rintro e w3 ⟨rfl,hb3⟩
   clear hpt x0 x1 x2c x3 x4 x5 y0 y1 y2 y3 y4 y5 l0
   have c3:=cv.on hb3
   clear hb3 cv
   obtain⟨l0,x0,x1,x2c,x3,x4,x5,y0,y1,y2,y3,y4,y5⟩:=c3.cells
   replace c3:=Hd c3
   have tb0:=tb_5_0
   have tb1:=tb_5_1
   have tb2:=tb_5_2
   have tb3:=tb_5_3
   have tb4:=tb_5_4
   have tb5:=tb_5_5
   have tb6:=tb_5_6
   have tb7:=tb_5_7
   have tb8:=tb_5_8
   go_wp2_with fail
   refine(hcf.out _ c3.out.below l0).mono ?_
   rintro e w4 ⟨rfl,hb4⟩
   have hbe:=Hd (c3.out.on hb4).below
   clear c3 hb4 hcf
   go_wp2
   go_ret
   exact⟨ret_int hR2.out,hbe.out⟩
  ·have hR2:cmpI n n2=R:=by rw[←hR.out];simp[restV,isNum]
   replace hR2:=Hd hR2
   clear hR hcc
   have hpt:=Hd (fun W=>part_any (6) b n t x s W)
   unfold partV agg6 at hpt
   simp only[if_true,Int.reduceEq,reduceCtorEq,if_false,or_true,true_or,or_false,or_self]at hpt
   go_wp2_with fail
   refine(hpt.out _).mono ?_
   rintro e w3 ⟨rfl,hb3⟩
   clear hpt x0 x1 x2c x3 x4 x5 y0 y1 y2 y3 y4 y5 l0
   have c3:=cv.on hb3
   clear hb3 cv
   obtain⟨l0,x0,x1,x2c,x3,x4,x5,y0,y1,y2,y3,y4,y5⟩:=c3.cells
   replace c3:=Hd c3
   have tb0:=tb_6_0
   have tb1:=tb_6_1
   have tb2:=tb_6_2
   have tb3:=tb_6_3
   have tb4:=tb_6_4
   have tb5:=tb_6_5
   have tb6:=tb_6_6
   have tb7:=tb_6_7
   have tb8:=tb_6_8
   go_wp2_with (go_at_call 106;refine(cmp64_any _ _ _).mono ?_;rintro e w' ⟨rfl,hw'⟩;rw[hw'];clear hw')
   go_ret
   exact⟨ret_int hR2.out,c3.out.below⟩
  ·have hR2:cmpI n n2=R:=by rw[←hR.out];simp[restV,isNum]
   replace hR2:=Hd hR2
   clear hR hcc
   have hpt:=Hd (fun W=>part_any (7) b n t x s W)
   unfold partV agg6 at hpt
   simp only[if_true,Int.reduceEq,reduceCtorEq,if_false,or_true,true_or,or_false,or_self]at hpt
   go_wp2_with fail
   refine(hpt.out _).mono ?_
   rintro e w3 ⟨rfl,hb3⟩
   clear hpt x0 x1 x2c x3 x4 x5 y0 y1 y2 y3 y4 y5 l0
   have c3:=cv.on hb3
   clear hb3 cv
   obtain⟨l0,x0,x1,x2c,x3,x4,x5,y0,y1,y2,y3,y4,y5⟩:=c3.cells
   replace c3:=Hd c3
   have tb0:=tb_6_0
   have tb1:=tb_6_1
   have tb2:=tb_6_2
   have tb3:=tb_6_3
   have tb4:=tb_6_4
   have tb5:=tb_6_5
   have tb6:=tb_6_6
   have tb7:=tb_6_7
   have tb8:=tb_6_8
   go_wp2_with (go_at_call 106;refine(cmp64_any _ _ _).mono ?_;rintro e w' ⟨rfl,hw'⟩;rw[hw'];clear hw')
   go_ret
   exact⟨ret_int hR2.out,c3.out.below⟩
  ·have hR2:orI (cmpT t t2) (cmpT x x2)=R:=by rw[←hR.out];simp[restV,isNum]
   replace hR2:=Hd hR2
   clear hR hcc
   have hpt:=Hd (fun W=>part_any (8) b n t x s W)
   unfold partV agg6 at hpt
   simp only[if_true,Int.reduceEq,reduceCtorEq,if_false,or_true,true_or,or_false,or_self]at hpt
   go_wp2_with fail
   refine(hpt.out _).mono ?_
   rintro e w3 ⟨rfl,hb3⟩
   clear hpt x0 x1 x2c x3 x4 x5 y0 y1 y2 y3 y4 y5 l0
   have c3:=cv.on hb3
   clear hb3 cv
   obtain⟨l0,x0,x1,x2c,x3,x4,x5,y0,y1,y2,y3,y4,y5⟩:=c3.cells
   replace c3:=Hd c3
   have tb0:=tb_4_0
   have tb1:=tb_4_1
   have tb2:=tb_4_2
   have tb3:=tb_4_3
   have tb4:=tb_4_4
   have tb5:=tb_4_5
   have tb6:=tb_4_6
   have tb7:=tb_4_7
   have tb8:=tb_4_8
   go_upto_region 22 with fail
   clear tb0 tb1 tb2 tb3 tb4 tb5 tb6 tb7 tb8
   clear x0 x1 x2c x3 x4 x5 y0 y1 y2 y3 y4 y5 l0
   have c4:=c3.out.on (below_drewO _)
   clear c3
   refine wp_region_held_drew (S:=fun V=>B3 w V lang #[.int .i64 8,.bool b,.int .i64 n,.string t,.string x,s] #[.int .i64 k2,.bool bb,.int .i64 n2,.string t2,.string x2,s2]) (by kernel_rfl) c4 (fun hS=>?_)
   have hV:=c4
   clear c4
   generalize w3.drew=V1 at *
   refine tkS [0,1,2,3] ?_
   iterate 4
    refine tkC ?_ rfl (fun w' hS=>?_) hS ?_
    rotate_left
    ·
     obtain⟨l0,x0,x1,x2c,x3,x4,x5,y0,y1,y2,y3,y4,y5⟩:=hS.cells
     go_simp
     try with_reducible rfl
   refine tkS [5,6,7,8] ?_
   iterate 4
    refine tkC ?_ rfl (fun w' hS=>?_) hS ?_
    rotate_left
    ·
     obtain⟨l0,x0,x1,x2c,x3,x4,x5,y0,y1,y2,y3,y4,y5⟩:=hS.cells
     go_simp
     try with_reducible rfl
   refine rdH 4 rfl (fun K hK=>?_)
   clear hS
   go_simp
   refine(cmpStr_any _ _ _).mono ?_
   rintro e w' ⟨rfl,hw'⟩
   rw[hw']
   clear hw'
   go_wp2_with fail
   refine hKo hK (hV) (fun hS=>?_)
   clear hK K
   refine rdH 9 rfl (fun K hK=>?_)
   clear hS
   go_simp
   refine(cmpStr_any _ _ _).mono ?_
   rintro e w' ⟨rfl,hw'⟩
   rw[hw']
   clear hw'
   go_wp2_with fail
   refine hKo hK (hV) (fun hS=>?_)
   clear hK K
   refine rdH 10 rfl (fun K hK=>?_)
   clear hS
   go_simp
   go_wp2_with fail
   have hal:=hV.on ((Below.refl _ _).alloc (Nat.le_refl _) _:Below V1.heap.size V1 (V1.alloc (.cells #[.int .i64 (cmpT t t2),.int .i64 (cmpT x x2)] 3)))
   have hq:Blk (V1.alloc (.cells #[.int .i64 (cmpT t t2),.int .i64 (cmpT x x2)] 3)) V1.heap.size #[.int .i64 (cmpT t t2),.int .i64 (cmpT x x2)] 3:=Blk.new _ _ _
   refine hKo hK hal (fun hS=>?_)
   clear hK K hV
   have hor:=or_any V1.heap.size _ _ _ (hq.cell 0 rfl) (hq.cell 1 rfl)
   generalize V1.alloc (.cells #[.int .i64 (cmpT t t2),.int .i64 (cmpT x x2)] 3)=V2 at *
   clear hq
   replace hor:=Hd hor
   refine rdH 11 rfl (fun K hK=>?_)
   clear hS
   go_simp
   refine(hor.out).mono ?_
   rintro e w' ⟨rfl,hw'⟩
   rw[hw']
   clear hw'
   go_wp2_with fail
   refine hKo hK (hal) (fun hS=>?_)
   clear hK K
   refine tkH 12 ?_ rfl (fun w' hS=>?_) hS ?_
   rotate_left
   ·
    skip
    go_simp
    try with_reducible rfl
   refine wpAnyH_done (by kernel_rfl) ?_ _
   clear hS hor
   have hbe:=Hd hal.below
   clear hal
   go_wp2
   go_ret
   exact⟨ret_int hR2.out,hbe.out⟩
  ·have hR2:orI (cmpT t t2) (cmpT x x2)=R:=by rw[←hR.out];simp[restV,isNum]
   replace hR2:=Hd hR2
   clear hR hcc
   have hpt:=Hd (fun W=>part_any (9) b n t x s W)
   unfold partV agg6 at hpt
   simp only[if_true,Int.reduceEq,reduceCtorEq,if_false,or_true,true_or,or_false,or_self]at hpt
   go_wp2_with fail
   refine(hpt.out _).mono ?_
   rintro e w3 ⟨rfl,hb3⟩
   clear hpt x0 x1 x2c x3 x4 x5 y0 y1 y2 y3 y4 y5 l0
   have c3:=cv.on hb3
   clear hb3 cv
   obtain⟨l0,x0,x1,x2c,x3,x4,x5,y0,y1,y2,y3,y4,y5⟩:=c3.cells
   replace c3:=Hd c3
   have tb0:=tb_4_0
   have tb1:=tb_4_1
   have tb2:=tb_4_2
   have tb3:=tb_4_3
   have tb4:=tb_4_4
   have tb5:=tb_4_5
   have tb6:=tb_4_6
   have tb7:=tb_4_7
   have tb8:=tb_4_8
   go_upto_region 22 with fail
   clear tb0 tb1 tb2 tb3 tb4 tb5 tb6 tb7 tb8
   clear x0 x1 x2c x3 x4 x5 y0 y1 y2 y3 y4 y5 l0
   have c4:=c3.out.on (below_drewO _)
   clear c3
   refine wp_region_held_drew (S:=fun V=>B3 w V lang #[.int .i64 9,.bool b,.int .i64 n,.string t,.string x,s] #[.int .i64 k2,.bool bb,.int .i64 n2,.string t2,.string x2,s2]) (by kernel_rfl) c4 (fun hS=>?_)
   have hV:=c4
   clear c4
   generalize w3.drew=V1 at *
   refine tkS [0,1,2,3] ?_
   iterate 4
    refine tkC ?_ rfl (fun w' hS=>?_) hS ?_
    rotate_left
    ·
     obtain⟨l0,x0,x1,x2c,x3,x4,x5,y0,y1,y2,y3,y4,y5⟩:=hS.cells
     go_simp
     try with_reducible rfl
   refine tkS [5,6,7,8] ?_
   iterate 4
    refine tkC ?_ rfl (fun w' hS=>?_) hS ?_
    rotate_left
    ·
     obtain⟨l0,x0,x1,x2c,x3,x4,x5,y0,y1,y2,y3,y4,y5⟩:=hS.cells
     go_simp
     try with_reducible rfl
   refine rdH 4 rfl (fun K hK=>?_)
   clear hS
   go_simp
   refine(cmpStr_any _ _ _).mono ?_
   rintro e w' ⟨rfl,hw'⟩
   rw[hw']
   clear hw'
   go_wp2_with fail
   refine hKo hK (hV) (fun hS=>?_)
   clear hK K
   refine rdH 9 rfl (fun K hK=>?_)
   clear hS
   go_simp
   refine(cmpStr_any _ _ _).mono ?_
   rintro e w' ⟨rfl,hw'⟩
   rw[hw']
   clear hw'
   go_wp2_with fail
   refine hKo hK (hV) (fun hS=>?_)
   clear hK K
   refine rdH 10 rfl (fun K hK=>?_)
   clear hS
   go_simp
   go_wp2_with fail
   have hal:=hV.on ((Below.refl _ _).alloc (Nat.le_refl _) _:Below V1.heap.size V1 (V1.alloc (.cells #[.int .i64 (cmpT t t2),.int .i64 (cmpT x x2)] 3)))
   have hq:Blk (V1.alloc (.cells #[.int .i64 (cmpT t t2),.int .i64 (cmpT x x2)] 3)) V1.heap.size #[.int .i64 (cmpT t t2),.int .i64 (cmpT x x2)] 3:=Blk.new _ _ _
   refine hKo hK hal (fun hS=>?_)
   clear hK K hV
   have hor:=or_any V1.heap.size _ _ _ (hq.cell 0 rfl) (hq.cell 1 rfl)
   generalize V1.alloc (.cells #[.int .i64 (cmpT t t2),.int .i64 (cmpT x x2)] 3)=V2 at *
   clear hq
   replace hor:=Hd hor
   refine rdH 11 rfl (fun K hK=>?_)
   clear hS
   go_simp
   refine(hor.out).mono ?_
   rintro e w' ⟨rfl,hw'⟩
   rw[hw']
   clear hw'
   go_wp2_with fail
   refine hKo hK (hal) (fun hS=>?_)
   clear hK K
   refine tkH 12 ?_ rfl (fun w' hS=>?_) hS ?_
   rotate_left
   ·
    skip
    go_simp
    try with_reducible rfl
   refine wpAnyH_done (by kernel_rfl) ?_ _
   clear hS hor
   have hbe:=Hd hal.below
   clear hal
   go_wp2
   go_ret
   exact⟨ret_int hR2.out,hbe.out⟩
  ·have hR2:orI (cmpT t t2) (cmpT x x2)=R:=by rw[←hR.out];simp[restV,isNum]
   replace hR2:=Hd hR2
   clear hR hcc
   have hpt:=Hd (fun W=>part_any (10) b n t x s W)
   unfold partV agg6 at hpt
   simp only[if_true,Int.reduceEq,reduceCtorEq,if_false,or_true,true_or,or_false,or_self]at hpt
   go_wp2_with fail
   refine(hpt.out _).mono ?_
   rintro e w3 ⟨rfl,hb3⟩
   clear hpt x0 x1 x2c x3 x4 x5 y0 y1 y2 y3 y4 y5 l0
   have c3:=cv.on hb3
   clear hb3 cv
   obtain⟨l0,x0,x1,x2c,x3,x4,x5,y0,y1,y2,y3,y4,y5⟩:=c3.cells
   replace c3:=Hd c3
   have tb0:=tb_7_0
   have tb1:=tb_7_1
   have tb2:=tb_7_2
   have tb3:=tb_7_3
   have tb4:=tb_7_4
   have tb5:=tb_7_5
   have tb6:=tb_7_6
   have tb7:=tb_7_7
   have tb8:=tb_7_8
   go_upto_region 22 with fail
   clear tb0 tb1 tb2 tb3 tb4 tb5 tb6 tb7 tb8
   clear x0 x1 x2c x3 x4 x5 y0 y1 y2 y3 y4 y5 l0
   have c4:=c3.out.on (below_drewO _)
   clear c3
   refine wp_region_held_drew (S:=fun V=>B3 w V lang #[.int .i64 10,.bool b,.int .i64 n,.string t,.string x,s] #[.int .i64 k2,.bool bb,.int .i64 n2,.string t2,.string x2,s2]) (by kernel_rfl) c4 (fun hS=>?_)
   have hV:=c4
   clear c4
   generalize w3.drew=V1 at *
   refine tkS [0,1,2,3] ?_
   iterate 4
    refine tkC ?_ rfl (fun w' hS=>?_) hS ?_
    rotate_left
    ·
     obtain⟨l0,x0,x1,x2c,x3,x4,x5,y0,y1,y2,y3,y4,y5⟩:=hS.cells
     go_simp
     try with_reducible rfl
   refine tkS [5,6,7,8] ?_
   iterate 4
    refine tkC ?_ rfl (fun w' hS=>?_) hS ?_
    rotate_left
    ·
     obtain⟨l0,x0,x1,x2c,x3,x4,x5,y0,y1,y2,y3,y4,y5⟩:=hS.cells
     go_simp
     try with_reducible rfl
   refine rdH 4 rfl (fun K hK=>?_)
   clear hS
   go_simp
   refine(cmpStr_any _ _ _).mono ?_
   rintro e w' ⟨rfl,hw'⟩
   rw[hw']
   clear hw'
   go_wp2_with fail
   refine hKo hK (hV) (fun hS=>?_)
   clear hK K
   refine rdH 9 rfl (fun K hK=>?_)
   clear hS
   go_simp
   refine(cmpStr_any _ _ _).mono ?_
   rintro e w' ⟨rfl,hw'⟩
   rw[hw']
   clear hw'
   go_wp2_with fail
   refine hKo hK (hV) (fun hS=>?_)
   clear hK K
   refine rdH 10 rfl (fun K hK=>?_)
   clear hS
   go_simp
   go_wp2_with fail
   have hal:=hV.on ((Below.refl _ _).alloc (Nat.le_refl _) _:Below V1.heap.size V1 (V1.alloc (.cells #[.int .i64 (cmpT t t2),.int .i64 (cmpT x x2)] 3)))
   have hq:Blk (V1.alloc (.cells #[.int .i64 (cmpT t t2),.int .i64 (cmpT x x2)] 3)) V1.heap.size #[.int .i64 (cmpT t t2),.int .i64 (cmpT x x2)] 3:=Blk.new _ _ _
   refine hKo hK hal (fun hS=>?_)
   clear hK K hV
   have hor:=or_any V1.heap.size _ _ _ (hq.cell 0 rfl) (hq.cell 1 rfl)
   generalize V1.alloc (.cells #[.int .i64 (cmpT t t2),.int .i64 (cmpT x x2)] 3)=V2 at *
   clear hq
   replace hor:=Hd hor
   refine rdH 11 rfl (fun K hK=>?_)
   clear hS
   go_simp
   refine(hor.out).mono ?_
   rintro e w' ⟨rfl,hw'⟩
   rw[hw']
   clear hw'
   go_wp2_with fail
   refine hKo hK (hal) (fun hS=>?_)
   clear hK K
   refine tkH 12 ?_ rfl (fun w' hS=>?_) hS ?_
   rotate_left
   ·
    skip
    go_simp
    try with_reducible rfl
   refine wpAnyH_done (by kernel_rfl) ?_ _
   clear hS hor
   have hbe:=Hd hal.below
   clear hal
   go_wp2
   go_ret
   exact⟨ret_int hR2.out,hbe.out⟩
  ·have hpk:partV k b n t x s=.iface 144 (.int .i64 k):=by
    unfold partV
    rw[if_neg h0,if_neg h1,if_neg h2,if_neg h3,if_neg (by omega),if_neg h5,if_neg (by omega),if_neg h10]
   have hpt:=Hd (fun W=>part_any k b n t x s W)
   rw[hpk]at hpt
   unfold agg6 at hpt
   have hR2:orI (cmpT t t2) (cmpT x x2)=R:=by
    rw[←hR.out]
    unfold restV isNum
    rw[decide_eq_false (by omega),if_neg (by decide),if_neg h5,if_neg (by omega),if_neg h1]
   replace hR2:=Hd hR2
   clear hpk h0 h1 h2 h3 h4 h5 h6 h7 h8 h9 h10 hR hcc
   go_wp2_with fail
   refine(hpt.out _).mono ?_
   rintro e w3 ⟨rfl,hb3⟩
   clear hpt x0 x1 x2c x3 x4 x5 y0 y1 y2 y3 y4 y5 l0
   have c3:=cv.on hb3
   clear hb3 cv
   obtain⟨l0,x0,x1,x2c,x3,x4,x5,y0,y1,y2,y3,y4,y5⟩:=c3.cells
   replace c3:=Hd c3
   have tb0:=tb_8_0
   have tb1:=tb_8_1
   have tb2:=tb_8_2
   have tb3:=tb_8_3
   have tb4:=tb_8_4
   have tb5:=tb_8_5
   have tb6:=tb_8_6
   have tb7:=tb_8_7
   have tb8:=tb_8_8
   go_upto_region 22 with fail
   clear tb0 tb1 tb2 tb3 tb4 tb5 tb6 tb7 tb8
   clear x0 x1 x2c x3 x4 x5 y0 y1 y2 y3 y4 y5 l0
   have c4:=c3.out.on (below_drewO _)
   clear c3
   refine wp_region_held_drew (S:=fun V=>B3 w V lang #[.int .i64 k,.bool b,.int .i64 n,.string t,.string x,s] #[.int .i64 k2,.bool bb,.int .i64 n2,.string t2,.string x2,s2]) (by kernel_rfl) c4 (fun hS=>?_)
   have hV:=c4
   clear c4
   generalize w3.drew=V1 at *
   refine tkS [0,1,2,3] ?_
   iterate 4
    refine tkC ?_ rfl (fun w' hS=>?_) hS ?_
    rotate_left
    ·
     obtain⟨l0,x0,x1,x2c,x3,x4,x5,y0,y1,y2,y3,y4,y5⟩:=hS.cells
     go_simp
     try with_reducible rfl
   refine tkS [5,6,7,8] ?_
   iterate 4
    refine tkC ?_ rfl (fun w' hS=>?_) hS ?_
    rotate_left
    ·
     obtain⟨l0,x0,x1,x2c,x3,x4,x5,y0,y1,y2,y3,y4,y5⟩:=hS.cells
     go_simp
     try with_reducible rfl
   refine rdH 4 rfl (fun K hK=>?_)
   clear hS
   go_simp
   refine(cmpStr_any _ _ _).mono ?_
   rintro e w' ⟨rfl,hw'⟩
   rw[hw']
   clear hw'
   go_wp2_with fail
   refine hKo hK (hV) (fun hS=>?_)
   clear hK K
   refine rdH 9 rfl (fun K hK=>?_)
   clear hS
   go_simp
   refine(cmpStr_any _ _ _).mono ?_
   rintro e w' ⟨rfl,hw'⟩
   rw[hw']
   clear hw'
   go_wp2_with fail
   refine hKo hK (hV) (fun hS=>?_)
   clear hK K
   refine rdH 10 rfl (fun K hK=>?_)
   clear hS
   go_simp
   go_wp2_with fail
   have hal:=hV.on ((Below.refl _ _).alloc (Nat.le_refl _) _:Below V1.heap.size V1 (V1.alloc (.cells #[.int .i64 (cmpT t t2),.int .i64 (cmpT x x2)] 3)))
   have hq:Blk (V1.alloc (.cells #[.int .i64 (cmpT t t2),.int .i64 (cmpT x x2)] 3)) V1.heap.size #[.int .i64 (cmpT t t2),.int .i64 (cmpT x x2)] 3:=Blk.new _ _ _
   refine hKo hK hal (fun hS=>?_)
   clear hK K hV
   have hor:=or_any V1.heap.size _ _ _ (hq.cell 0 rfl) (hq.cell 1 rfl)
   generalize V1.alloc (.cells #[.int .i64 (cmpT t t2),.int .i64 (cmpT x x2)] 3)=V2 at *
   clear hq
   replace hor:=Hd hor
   refine rdH 11 rfl (fun K hK=>?_)
   clear hS
   go_simp
   refine(hor.out).mono ?_
   rintro e w' ⟨rfl,hw'⟩
   rw[hw']
   clear hw'
   go_wp2_with fail
   refine hKo hK (hal) (fun hS=>?_)
   clear hK K
   refine tkH 12 ?_ rfl (fun w' hS=>?_) hS ?_
   rotate_left
   ·
    skip
    go_simp
    try with_reducible rfl
   refine wpAnyH_done (by kernel_rfl) ?_ _
   clear hS hor
   have hbe:=Hd hal.below
   clear hal
   go_wp2
   go_ret
   exact⟨ret_int hR2.out,hbe.out⟩
theorem rclosure_call(N m:Nat)(lang:Int)(hs:OrdX N m lang)(w:World)(hE:EnvD w)(B:Nat)(hB:w.cell? ⟨B,0,none⟩=some (.int .i64 lang))(k:Int)(b:Bool)(n:Int)(hn:In64 n)(t x:ByteArray)(s:Value)(l:List V)(k2:Int)(bb:Bool)(n2:Int)(hn2:In64 n2)(t2 x2:ByteArray)(s2:Value)(l2:List V)(hm:SizeOf.sizeOf l<m)(ha:LA w N s l)(ha2:LA w N s2 l2):
 Calls Tryz.prog 64 #[agg6 k b n t x s,agg6 k2 bb n2 t2 x2 s2,.pointer (some ⟨B,0,none⟩)] w fun e w'=>e=.returned (.int .i64 (ordV (decide (lang=1)) (.mk k b n t x l) (.mk k2 bb n2 t2 x2 l2)))∧Below w.heap.size w w':=by
 have h2:=B2.made w (c6 k b n t x s) (c6 k2 bb n2 t2 x2 s2)
 have hBl:B<w.heap.size:=by
  obtain⟨ob,ho,_⟩:=cells_of_cell hB
  exact(Array.getElem?_eq_some_iff.1 ho).1
 have cB:=(h2.below.cell (p:=⟨B,0,none⟩) hBl).trans hB
 have hcall:=hs _ (hE.below h2.below) k b n hn t x s l k2 bb n2 hn2 t2 x2 s2 l2 hm (ha.stay h2.below) (ha2.stay h2.below)
 have hbe:=Hd h2.below
 unfold c6 at h2 hcall cB
 unfold agg6 at hcall ⊢
 generalize ordV (decide (lang=1)) (.mk k b n t x l) (.mk k2 bb n2 t2 x2 l2)=r at *
 replace hcall:=Hd hcall
 replace hbe:=hbe.out
 unfold c6 at hbe
 replace hbe:=Hd hbe
 clear h2 ha ha2 hs hB hE
 go_enter Tryz.func64,Tryz.ntmps64
 go_wp2_with fail
 refine hcall.out.mono ?_
 rintro e w2 ⟨rfl,hb2⟩
 go_wp2
 go_ret
 exact⟨rfl,hbe.out.trans (hb2.mono hbe.out.size)⟩
theorem rcompareFunc_call(N m:Nat)(hN:N≤9223372036854775807)(lang:Int)(hs:OrdX N m lang)(w:World)(hE:EnvD w)(B:Nat)(hB:w.cell? ⟨B,0,none⟩=some (.int .i64 lang))(s s2:Value)(l l2:List V)(hm:SizeOf.sizeOf l≤m)(ha:LA w N s l)(ha2:LA w N s2 l2):
 Calls Tryz.prog 63 #[s,s2,.func (.func 64) #[] #[.pointer (some ⟨B,0,none⟩)]] w fun e w'=>e=.returned (.int .i64 (ordL (decide (lang=1)) l l2))∧Below w.heap.size w w':=by
 have hBl:B<w.heap.size:=by
  obtain⟨ob,ho,_⟩:=cells_of_cell hB
  exact(Array.getElem?_eq_some_iff.1 ho).1
 cases ha with
 |mk ao cap l hl h=>
 cases ha2 with
 | mk ao2 cap2 l2 hl2 h2 =>
  replace h:=Hd h
  replace h2:=Hd h2
  replace hs:=Hd hs
  replace hB:=Hd hB
  replace hE:=Hd hE
  have hLi:(l.length:Int)≤9223372036854775807:=by omega
  have hLi2:(l2.length:Int)≤9223372036854775807:=by omega
  go_enter Tryz.func63,Tryz.ntmps63
  go_wp2
  go_loopw [13] (fun v wr=>∃k:Nat,k≤l.length∧v=.int .i64 k∧Hid (Below w.heap.size w wr)∧Hid (ordL (decide (lang=1)) l l2=ordL (decide (lang=1)) (l.drop k) (l2.drop k))) (fun v _=>l.length-(intOf v).toNat)
  case atStart=>exact⟨0,by omega,rfl,Below.refl _ _,by rw[List.drop_zero,List.drop_zero];exact Hd rfl⟩
  case round =>
   obtain⟨k,hk,rfl,hb,hpre⟩:=hrel
   by_cases hlt:k<l.length
   ·have hki:(k:Int)<(l.length:Int):=by omega
    have hel:=(h.out k (by omega)).stay hb.out
    rw[Nat.mul_comm 6 k]at hel
    by_cases hlt2:k<l2.length
    ·have hki2:¬(l2.length:Int)≤(k:Int):=by omega
     have hki3:(k:Int)<(l2.length:Int):=by omega
     have hel2:=(h2.out k (by omega)).stay hb.out
     rw[Nat.mul_comm 6 k]at hel2
     have hmem:SizeOf.sizeOf (l[k]'(by omega))<SizeOf.sizeOf l:=List.sizeOf_lt_of_mem (List.getElem_mem _)
     have hst:=hpre.out.trans (ordL_step _ l l2 k hlt hlt2)
     generalize l[k]'(by omega)=v at hel hmem hst
     generalize l2[k]'(by omega)=v2 at hel2 hst
     cases hel with
     |mk b off o k1 bo n t x l1 s hr hk1 hn ht hx hsl=>
     cases hel2 with
     | mk b2 off2 o2 k12 bo2 n2 t2 x2 l12 s2 hr2 hk12 hn2 ht2 hx2 hsl2 =>
      obtain⟨aoE,capE,rfl⟩:=LA.form6 hsl
      obtain⟨aoF,capF,rfl⟩:=LA.form6 hsl2
      have hm1:SizeOf.sizeOf l1<m:=by simp at hmem;omega
      obtain⟨x0,x1,x2c,x3,x4,x5⟩:=hr.six
      have hb1:Below wr.heap.size wr (wr.alloc (.cells #[.int .i64 k1,.bool bo,.int .i64 n,.string t,.string x,.slice aoE l1.length capE] 52)):=(Below.refl _ _).alloc (Nat.le_refl _) _
      have hr2':=hr2.below hb1
      obtain⟨y0,y1,y2,y3,y4,y5⟩:=hr2.six
      obtain⟨y0',y1',y2',y3',y4',y5'⟩:=hr2'.six
      have hbb:Below wr.heap.size wr ((wr.alloc (.cells #[.int .i64 k1,.bool bo,.int .i64 n,.string t,.string x,.slice aoE l1.length capE] 52)).alloc (.cells #[.int .i64 k12,.bool bo2,.int .i64 n2,.string t2,.string x2,.slice aoF l12.length capF] 52)):=hb1.alloc hb1.size _
      have hB2:=((hb.out.trans (hbb.mono hb.out.size)).cell (p:=⟨B,0,none⟩) hBl).trans hB.out
      have hcall:=rclosure_call N m lang hs.out _ (hE.out.below (hb.out.trans (hbb.mono hb.out.size))) B hB2 k1 bo n hn t x _ l1 k12 bo2 n2 hn2 t2 x2 _ l12 hm1 (hsl.stay hbb) (hsl2.stay hbb)
      unfold agg6 at hcall
      generalize ordV (decide (lang=1)) (.mk k1 bo n t x l1) (.mk k12 bo2 n2 t2 x2 l12)=c at hcall hst
      replace hcall:=Hd hcall
      replace hst:=Hd hst
      clear hr hr2 hr2' hsl hsl2 hmem hB2 hpre
      go_wp2_with fail
      refine hcall.out.mono ?_
      rintro e w2 ⟨rfl,hb2⟩
      have hb3:=Hd (hb.out.trans ((hbb.trans (hb2.mono hbb.size)).mono hb.out.size))
      clear hb2 hcall hbb hb1 hb
      by_cases hc:c=0
      ·subst hc
       go_wp2
       go_roundw
       case rel=>exact⟨k+1,by omega,by go_num,hb3,by have:=hst.out;unfold orI at this;rw[if_pos rfl]at this;exact Hd this⟩
       case measure=>simp[intOf];omega
      ·have hcb:(c != 0)=true:=bne_iff_ne.2 hc
       have hst2:ordL (decide (lang=1)) l l2=c:=by have:=hst.out;unfold orI at this;rw[if_neg hc]at this;exact this
       replace hst2:=Hd hst2
       clear hst hc
       go_wp2
       go_ret
       exact⟨ret_int hst2.out.symm,hb3.out⟩
    ·have hki2:(l2.length:Int)≤(k:Int):=by omega
     have hst:=Hd (hpre.out.trans (ordL_more _ l l2 k hlt (by omega)))
     generalize l[k]'(by omega)=v at hel
     cases hel with
     |mk b off o k1 bo n t x l1 s hr hk1 hn ht hx hsl=>
      obtain⟨aoE,capE,rfl⟩:=LA.form6 hsl
      obtain⟨x0,x1,x2c,x3,x4,x5⟩:=hr.six
      have hb1:Below wr.heap.size wr (wr.alloc (.cells #[.int .i64 k1,.bool bo,.int .i64 n,.string t,.string x,.slice aoE l1.length capE] 52)):=(Below.refl _ _).alloc (Nat.le_refl _) _
      have hb3:=Hd (hb.out.trans (hb1.mono hb.out.size))
      clear hb1 hr hsl hpre
      go_wp2
      go_ret
      exact⟨ret_int hst.out.symm,hb3.out⟩
   ·have hki:¬(k:Int)<(l.length:Int):=by omega
    obtain rfl:k=l.length:=by omega
    by_cases hlt2:l.length<l2.length
    ·have hst:=Hd (hpre.out.trans (ordL_less _ l l2 _ (Nat.le_refl _) hlt2))
     have hki2:(l.length:Int)<(l2.length:Int):=by omega
     clear hpre
     go_wp2
     go_ret
     exact⟨ret_int hst.out.symm,hb.out⟩
    ·have hst:=Hd (hpre.out.trans (ordL_done _ l l2 _ (Nat.le_refl _) (by omega)))
     have hki2:¬(l.length:Int)<(l2.length:Int):=by omega
     clear hpre
     go_wp2
     go_ret
     exact⟨ret_int hst.out.symm,hb.out⟩
theorem rowsCompare_any(N:Nat)(hN:N≤9223372036854775807)(lang:Int)(w:World)(hE:EnvD w)(s s2:Value)(l l2:List V)(ha:LA w N s l)(ha2:LA w N s2 l2):
 Calls Tryz.prog 23 #[.int .i64 lang,s,s2] w fun e w'=>e=.returned (.int .i64 (ordL (decide (lang=1)) l l2))∧Below w.heap.size w w':=by
 have hq:=Blk.new w #[.int .i64 lang] 3
 have hal:Below w.heap.size w (w.alloc (.cells #[.int .i64 lang] 3)):=(Below.refl _ _).alloc (Nat.le_refl _) _
 have hc:=Hd (rcompareFunc_call N (SizeOf.sizeOf l) hN lang (order_all N hN lang _) _ (hE.below hal) w.heap.size (hq.cell 0 rfl) s s2 l l2 (Nat.le_refl _) (ha.stay hal) (ha2.stay hal))
 replace hal:=Hd hal
 clear hq ha ha2 hE
 go_enter Tryz.func23,Tryz.ntmps23
 go_wp2_with fail
 refine hc.out.mono ?_
 rintro e w2 ⟨rfl,hb2⟩
 go_wp2
 go_ret
 exact⟨rfl,hal.out.trans (hb2.mono hal.out.size)⟩
end Go.Proofs.YtidplkfhodpdhaaGreatDoor.val
