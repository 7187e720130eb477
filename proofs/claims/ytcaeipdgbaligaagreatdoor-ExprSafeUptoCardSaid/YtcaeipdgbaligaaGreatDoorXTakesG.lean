/- Texts XTakesC, TabCont, XTakesG, one behind the other. -/
import Derived.Test.YtcaeipdgbaligaaGreatDoorRegMore
set_option linter.unusedSimpArgs false
set_option linter.unusedVariables false
set_option maxHeartbeats 8000000
namespace Go.Proofs.YtcaeipdgbaligaaGreatDoor.ex
open Go.ChangeShapes Go.WideShapes Go.ChangeAt Go.RowKit kit dec val tab
set_option maxRecDepth 100000
theorem MapV.alloc{P:Program}{K:TypeId}{zv:Value}{w:World}{b n:Nat}{f:List UInt8→Option Value}(h:MapV P K zv w b n f)(o:Obj):MapV P K zv (w.alloc o) b n f:=h.same (Below.heap_alloc _ _ _ h.lt)
theorem map_set{P:Program}{K:TypeId}{zv:Value}{w:World}{b n:Nat}{f:List UInt8→Option Value}(h:MapV P K zv w b n f)(q:Nat)(cs cs':Array Value)(t:TypeId)(hq:Blk w q cs t):MapV P K zv (w.setRow q cs') b n f:=by
 refine h.same (_root_.Go.setRow_other w q b cs' ?_)
 rintro rfl
 obtain⟨D,⟨es,clock,h0,r⟩,h2⟩:=h
 have:=h0.symm.trans hq.eq
 cases this
theorem infoF:(Tryz.prog.info? 114).map (·.size)=some 3:=by kernel_rfl
theorem setRow_under{B:Nat}{a b:World}(h:Below B a b){g:Nat}(hg:B≤g)(cs:Array Value):Below B a (b.setRow g cs):=h.trans ⟨rfl,rfl,rfl,by simp,fun k hk=>_root_.Go.setRow_other b g k cs (by omega)⟩
theorem zero_fn(w:World):(zeroValue 114).run Tryz.prog w=.ok zF w:=by kernel_rfl
theorem takes_call_false(w:World)(t:ByteArray)(ht:t.size≤1048576)(k:Int)(b:Bool)(n:Int)(t2 x2:ByteArray)(s:Value)(f:Bool)(sa sp sm sg:Value):
 Calls Tryz.prog 47 #[.int .i64 0,.agg (c13 26 t k b n t2 x2 s f sa sp sm sg)] w fun e w'=>e=.returned (tupOf (tcall false t))∧Below w.heap.size w w':=by
 obtain⟨r1,r2,r3,hr⟩:∃r1 r2 r3,tcall false t=(r1,r2,r3):=⟨_,_,_,rfl⟩
 rw[hr]
 unfold tupOf tup3
 dsimp only
 replace hr:=Hd hr
 have ht2:=Hd ht
 unfold c13
 have hq:=Blk.new w #[.int .i64 26,.string t,.int .i64 k,.bool b,.int .i64 n,.string t2,.string x2,s,.bool f,sa,sp,sm,sg] 43
 have hal:Below w.heap.size w (w.alloc (.cells #[.int .i64 26,.string t,.int .i64 k,.bool b,.int .i64 n,.string t2,.string x2,s,.bool f,sa,sp,sm,sg] 43)):=(Below.refl _ _).alloc (Nat.le_refl _) _
 have hsz:(w.alloc (.cells #[.int .i64 26,.string t,.int .i64 k,.bool b,.int .i64 n,.string t2,.string x2,s,.bool f,sa,sp,sm,sg] 43)).heap.size=w.heap.size+1:=World.size_alloc _ _
 have x0:=hq.cell 0 rfl
 have x1:=hq.cell 1 rfl
 replace hal:=Hd hal
 replace hq:=Hd hq
 replace hsz:=Hd hsz
 go_enter Tryz.func47,Tryz.ntmps47
 go_upto_region 35 with fail
 obtain⟨p,hp⟩:∃p,w.heap.size=p:=⟨_,rfl⟩
 rw[hp]at hq hsz hal ⊢
 generalize w.alloc (.cells #[.int .i64 26,.string t,.int .i64 k,.bool b,.int .i64 n,.string t2,.string x2,s,.bool f,sa,sp,sm,sg] 43)=w1 at *
 have hS0:Blk w1.drew p #[.int .i64 26,.string t,.int .i64 k,.bool b,.int .i64 n,.string t2,.string x2,s,.bool f,sa,sp,sm,sg] 43:=hq.out
 have hB:Hid (Below p w w1.drew):=Hd (Below_drewN 1 hal.out)
 have hsz1:w1.drew.heap.size=p+1:=hsz.out
 replace hsz1:=Hd hsz1
 clear x0 x1 hq hal hsz
 refine wp_region_held_drew (S:=fun V=>Blk V p #[.int .i64 26,.string t,.int .i64 k,.bool b,.int .i64 n,.string t2,.string x2,s,.bool f,sa,sp,sm,sg] 43) (by kernel_rfl) hS0 (fun hS=>?_)
 generalize w1.drew=V0 at *
 refine tkS [0,2,3] ?_
 iterate 3
  refine tkC ?_ rfl (fun w' hS=>?_) hS ?_
  rotate_left
  ·
   have x1:=hS.cell 1 rfl
   go_simp
   try with_reducible rfl
 refine wpAnyH_ready (rs:=[1,8]) (by kernel_rfl) (by simp) ?_
 refine AllReadyH.cons rfl (fun K hK=>?_) (AllReadyH.cons rfl (fun K hK=>?_) AllReadyH.nil)
 ·clear hS
  go_simp
  refine(functions_C V0).mono ?_
  rintro e w2 ⟨mb,nn,ff,rfl,hb2,hM,hF⟩
  go_wp2_with fail
  have hU:=hF t
  obtain⟨u,hu1,hu2,hu3⟩:=hU
  rw[hr.out]at hu1 hu2
  unfold ent at hu1
  have hks:t.size≤maxLen:=by have:=ht2.out;simp only[maxLen];omega
  have hS2:Blk w2 p #[.int .i64 26,.string t,.int .i64 k,.bool b,.int .i64 n,.string t2,.string x2,s,.bool f,sa,sp,sm,sg] 43:=(hb2.block _ hS0.lt).trans hS0
  have hB2:=Hd (hB.out.trans (hb2.mono (by have:=hsz1.out;omega)))
  have hs2:p<w2.heap.size:=hS2.lt
  refine hK.out _ _ hS2 (fun _=>wpAnyH_mono (S':=fun V=>Blk V p #[.int .i64 26,.string t,.int .i64 k,.bool b,.int .i64 n,.string t2,.string x2,s,.bool f,sa,sp,sm,sg] 43∧MapV Tryz.prog 9 zF V mb nn ff) (fun _ h=>h.1) ?_)
  clear hK K
  try simp only[List.getElem_toArray,List.getElem_cons_succ,List.getElem_cons_zero,Act.put,List.setIfInBounds_toArray,List.set_cons_zero,List.set_cons_succ]
  have hS:Blk w2 p #[.int .i64 26,.string t,.int .i64 k,.bool b,.int .i64 n,.string t2,.string x2,s,.bool f,sa,sp,sm,sg] 43∧MapV Tryz.prog 9 zF w2 mb nn ff:=⟨hS2,hM⟩
  refine tkS [4,5,6,7] ?_
  iterate 4
   refine tkC ?_ rfl (fun w' hS=>?_) hS ?_
   rotate_left
   ·
    have hl:=hS.2.look_ok Tryz.underlying115 Tryz.underlying9 (zero_fn _) t hks;rw[hu1,hu2]at hl
    go_simp
    try with_reducible rfl
  refine rdH 8 rfl (fun K hK=>?_)
  clear hS
  go_simp
  go_wp2_with fail
  have hS9:=hS2.alloc (.cells #[.int .i64 0,.int .i64 0,.nilFunc] 114)
  have hM9:=MapV.alloc hM (.cells #[.int .i64 0,.int .i64 0,.nilFunc] 114)
  have hq2:=Blk.new w2 #[.int .i64 0,.int .i64 0,.nilFunc] 114
  have hB9:=Hd (hB2.out.alloc (by omega) (.cells #[.int .i64 0,.int .i64 0,.nilFunc] 114))
  refine hKo hK ⟨hS9,hM9⟩ (fun hS=>?_)
  clear hK K
  obtain⟨q,hqe⟩:∃q,w2.heap.size=q:=⟨_,rfl⟩
  rw[hqe]at hq2 hs2 ⊢
  have hpq:p≠q:=by omega
  have hqle:p≤q:=by omega
  generalize w2.alloc (.cells #[.int .i64 0,.int .i64 0,.nilFunc] 114)=W9 at *
  clear hqe hs2
  refine rdH 9 rfl (fun K hK=>?_)
  clear hS
  have hq3:=Hd (hq2.setRow (cs':=#[.int .i64 r1,.int .i64 r2,u]))
  have hb9:=Hd (setRow_under hB9.out hqle #[.int .i64 r1,.int .i64 r2,u])
  have hp9:=hS9.setRow_other (g:=q) (cs':=#[.int .i64 r1,.int .i64 r2,u]) hpq
  have hm9:=map_set hM9 q #[.int .i64 0,.int .i64 0,.nilFunc] #[.int .i64 r1,.int .i64 r2,u] 114 hq2
  rw[if_pos (by kernel_rfl)]
  refine wp_store_row 114 (.tmp 8) (.tmp 58) rfl q #[.int .i64 r1,.int .i64 r2,u] rfl rfl 114 #[.int .i64 0,.int .i64 0,.nilFunc] hq2.eq infoF rfl (by have h3:=hu3;simp only[Value.oneCell']at h3;simp[Value.oneCell',h3]) ?_
  refine hKo hK ⟨hp9,hm9⟩ (fun hS=>?_)
  clear hK K hq2 hB9 hp9 hm9 hM9 hS9
  refine tkH 10 ?_ rfl (fun w' hS=>?_) hS ?_
  rotate_left
  ·
   skip
   go_simp
   try with_reducible rfl
  refine wpAnyH_done (by kernel_rfl) ?_ _
  clear hS
  have hbf:Below w.heap.size w (W9.setRow q #[.int .i64 r1,.int .i64 r2,u]):=by rw[hp];exact hb9.out
  replace hbf:=Hd hbf
  clear hb9
  generalize W9.setRow q #[.int .i64 r1,.int .i64 r2,u]=W10 at *
  have y0:=hq3.out.cell 0 rfl
  have y1:=hq3.out.cell 1 rfl
  go_wp2
  go_region
  all_goals go_wp2
  all_goals go_ret3
  all_goals exact⟨rfl,Below_drewN 1 hbf.out⟩
 ·clear hS
  go_simp
  go_wp2_with fail
  have hS8:=hS0.alloc (.cells #[.int .i64 0,.int .i64 0,.nilFunc] 114)
  have hq2:=Blk.new V0 #[.int .i64 0,.int .i64 0,.nilFunc] 114
  have hB8:=Hd (hB.out.alloc (by have:=hsz1.out;omega) (.cells #[.int .i64 0,.int .i64 0,.nilFunc] 114))
  refine hKo hK hS8 (fun hS=>?_)
  clear hK K
  rw[hsz1.out]at hq2
  try rw[hsz1.out]
  have hz8:Hid ((V0.alloc (.cells #[.int .i64 0,.int .i64 0,.nilFunc] 114)).heap.size=p+2):=Hd (by rw[World.size_alloc,hsz1.out])
  generalize V0.alloc (.cells #[.int .i64 0,.int .i64 0,.nilFunc] 114)=V8 at *
  refine rdH 1 rfl (fun K hK=>?_)
  clear hS
  go_simp
  refine(functions_C V8).mono ?_
  rintro e W9 ⟨mb,nn,ff,rfl,hb2,hM9,hF⟩
  go_wp2_with fail
  have hU:=hF t
  obtain⟨u,hu1,hu2,hu3⟩:=hU
  rw[hr.out]at hu1 hu2
  unfold ent at hu1
  have hks:t.size≤maxLen:=by have:=ht2.out;simp only[maxLen];omega
  have hS9:Blk W9 p #[.int .i64 26,.string t,.int .i64 k,.bool b,.int .i64 n,.string t2,.string x2,s,.bool f,sa,sp,sm,sg] 43:=(hb2.block _ hS8.lt).trans hS8
  replace hq2:Blk W9 (p+1) #[.int .i64 0,.int .i64 0,.nilFunc] 114:=(hb2.block _ hq2.lt).trans hq2
  have hB9:=Hd (hB8.out.trans (hb2.mono (by have:=hz8.out;omega)))
  refine hK.out _ _ hS9 (fun _=>wpAnyH_mono (S':=fun V=>Blk V p #[.int .i64 26,.string t,.int .i64 k,.bool b,.int .i64 n,.string t2,.string x2,s,.bool f,sa,sp,sm,sg] 43∧MapV Tryz.prog 9 zF V mb nn ff) (fun _ h=>h.1) ?_)
  clear hK K
  try simp only[List.getElem_toArray,List.getElem_cons_succ,List.getElem_cons_zero,Act.put,List.setIfInBounds_toArray,List.set_cons_zero,List.set_cons_succ]
  have hS:Blk W9 p #[.int .i64 26,.string t,.int .i64 k,.bool b,.int .i64 n,.string t2,.string x2,s,.bool f,sa,sp,sm,sg] 43∧MapV Tryz.prog 9 zF W9 mb nn ff:=⟨hS9,hM9⟩
  refine tkS [4,5,6,7] ?_
  iterate 4
   refine tkC ?_ rfl (fun w' hS=>?_) hS ?_
   rotate_left
   ·
    have hl:=hS.2.look_ok Tryz.underlying115 Tryz.underlying9 (zero_fn _) t hks;rw[hu1,hu2]at hl
    go_simp
    try with_reducible rfl
  obtain⟨q,hqe⟩:∃q,p+1=q:=⟨_,rfl⟩
  rw[hqe]at hq2 ⊢
  have hpq:p≠q:=by omega
  have hqle:p≤q:=by omega
  clear hqe
  refine rdH 9 rfl (fun K hK=>?_)
  clear hS
  have hq3:=Hd (hq2.setRow (cs':=#[.int .i64 r1,.int .i64 r2,u]))
  have hb9:=Hd (setRow_under hB9.out hqle #[.int .i64 r1,.int .i64 r2,u])
  have hp9:=hS9.setRow_other (g:=q) (cs':=#[.int .i64 r1,.int .i64 r2,u]) hpq
  have hm9:=map_set hM9 q #[.int .i64 0,.int .i64 0,.nilFunc] #[.int .i64 r1,.int .i64 r2,u] 114 hq2
  rw[if_pos (by kernel_rfl)]
  refine wp_store_row 114 (.tmp 8) (.tmp 58) rfl q #[.int .i64 r1,.int .i64 r2,u] rfl rfl 114 #[.int .i64 0,.int .i64 0,.nilFunc] hq2.eq infoF rfl (by have h3:=hu3;simp only[Value.oneCell']at h3;simp[Value.oneCell',h3]) ?_
  refine hKo hK ⟨hp9,hm9⟩ (fun hS=>?_)
  clear hK K hq2 hB9 hp9 hm9 hM9 hS9
  refine tkH 10 ?_ rfl (fun w' hS=>?_) hS ?_
  rotate_left
  ·
   skip
   go_simp
   try with_reducible rfl
  refine wpAnyH_done (by kernel_rfl) ?_ _
  clear hS
  have hbf:Below w.heap.size w (W9.setRow q #[.int .i64 r1,.int .i64 r2,u]):=by rw[hp];exact hb9.out
  replace hbf:=Hd hbf
  clear hb9
  generalize W9.setRow q #[.int .i64 r1,.int .i64 r2,u]=W10 at *
  have y0:=hq3.out.cell 0 rfl
  have y1:=hq3.out.cell 1 rfl
  go_wp2
  go_region
  all_goals go_wp2
  all_goals go_ret3
  all_goals exact⟨rfl,Below_drewN 1 hbf.out⟩
theorem takes_call_true(w:World)(t:ByteArray)(ht:t.size≤1048576)(k:Int)(b:Bool)(n:Int)(t2 x2:ByteArray)(s:Value)(f:Bool)(sa sp sm sg:Value):
 Calls Tryz.prog 47 #[.int .i64 1,.agg (c13 26 t k b n t2 x2 s f sa sp sm sg)] w fun e w'=>e=.returned (tupOf (tcall true t))∧Below w.heap.size w w':=by
 obtain⟨r1,r2,r3,hr⟩:∃r1 r2 r3,tcall true t=(r1,r2,r3):=⟨_,_,_,rfl⟩
 rw[hr]
 unfold tupOf tup3
 dsimp only
 replace hr:=Hd hr
 have ht2:=Hd ht
 unfold c13
 have hq:=Blk.new w #[.int .i64 26,.string t,.int .i64 k,.bool b,.int .i64 n,.string t2,.string x2,s,.bool f,sa,sp,sm,sg] 43
 have hal:Below w.heap.size w (w.alloc (.cells #[.int .i64 26,.string t,.int .i64 k,.bool b,.int .i64 n,.string t2,.string x2,s,.bool f,sa,sp,sm,sg] 43)):=(Below.refl _ _).alloc (Nat.le_refl _) _
 have hsz:(w.alloc (.cells #[.int .i64 26,.string t,.int .i64 k,.bool b,.int .i64 n,.string t2,.string x2,s,.bool f,sa,sp,sm,sg] 43)).heap.size=w.heap.size+1:=World.size_alloc _ _
 have x0:=hq.cell 0 rfl
 have x1:=hq.cell 1 rfl
 replace hal:=Hd hal
 replace hq:=Hd hq
 replace hsz:=Hd hsz
 go_enter Tryz.func47,Tryz.ntmps47
 go_upto_region 35 with fail
 obtain⟨p,hp⟩:∃p,w.heap.size=p:=⟨_,rfl⟩
 rw[hp]at hq hsz hal ⊢
 generalize w.alloc (.cells #[.int .i64 26,.string t,.int .i64 k,.bool b,.int .i64 n,.string t2,.string x2,s,.bool f,sa,sp,sm,sg] 43)=w1 at *
 have hS0:Blk w1.drew p #[.int .i64 26,.string t,.int .i64 k,.bool b,.int .i64 n,.string t2,.string x2,s,.bool f,sa,sp,sm,sg] 43:=hq.out
 have hB:Hid (Below p w w1.drew):=Hd (Below_drewN 1 hal.out)
 have hsz1:w1.drew.heap.size=p+1:=hsz.out
 replace hsz1:=Hd hsz1
 clear x0 x1 hq hal hsz
 refine wp_region_held_drew (S:=fun V=>Blk V p #[.int .i64 26,.string t,.int .i64 k,.bool b,.int .i64 n,.string t2,.string x2,s,.bool f,sa,sp,sm,sg] 43) (by kernel_rfl) hS0 (fun hS=>?_)
 generalize w1.drew=V0 at *
 refine tkS [0,2,3] ?_
 iterate 3
  refine tkC ?_ rfl (fun w' hS=>?_) hS ?_
  rotate_left
  ·
   have x1:=hS.cell 1 rfl
   go_simp
   try with_reducible rfl
 refine wpAnyH_ready (rs:=[1,8]) (by kernel_rfl) (by simp) ?_
 refine AllReadyH.cons rfl (fun K hK=>?_) (AllReadyH.cons rfl (fun K hK=>?_) AllReadyH.nil)
 ·clear hS
  go_simp
  refine(functions_S V0).mono ?_
  rintro e w2 ⟨mb,nn,ff,rfl,hb2,hM,hF⟩
  go_wp2_with fail
  have hU:=hF t
  obtain⟨u,hu1,hu2,hu3⟩:=hU
  rw[hr.out]at hu1 hu2
  unfold ent at hu1
  have hks:t.size≤maxLen:=by have:=ht2.out;simp only[maxLen];omega
  have hS2:Blk w2 p #[.int .i64 26,.string t,.int .i64 k,.bool b,.int .i64 n,.string t2,.string x2,s,.bool f,sa,sp,sm,sg] 43:=(hb2.block _ hS0.lt).trans hS0
  have hB2:=Hd (hB.out.trans (hb2.mono (by have:=hsz1.out;omega)))
  have hs2:p<w2.heap.size:=hS2.lt
  refine hK.out _ _ hS2 (fun _=>wpAnyH_mono (S':=fun V=>Blk V p #[.int .i64 26,.string t,.int .i64 k,.bool b,.int .i64 n,.string t2,.string x2,s,.bool f,sa,sp,sm,sg] 43∧MapV Tryz.prog 9 zF V mb nn ff) (fun _ h=>h.1) ?_)
  clear hK K
  try simp only[List.getElem_toArray,List.getElem_cons_succ,List.getElem_cons_zero,Act.put,List.setIfInBounds_toArray,List.set_cons_zero,List.set_cons_succ]
  have hS:Blk w2 p #[.int .i64 26,.string t,.int .i64 k,.bool b,.int .i64 n,.string t2,.string x2,s,.bool f,sa,sp,sm,sg] 43∧MapV Tryz.prog 9 zF w2 mb nn ff:=⟨hS2,hM⟩
  refine tkS [4,5,6,7] ?_
  iterate 4
   refine tkC ?_ rfl (fun w' hS=>?_) hS ?_
   rotate_left
   ·
    have hl:=hS.2.look_ok Tryz.underlying115 Tryz.underlying9 (zero_fn _) t hks;rw[hu1,hu2]at hl
    go_simp
    try with_reducible rfl
  refine rdH 8 rfl (fun K hK=>?_)
  clear hS
  go_simp
  go_wp2_with fail
  have hS9:=hS2.alloc (.cells #[.int .i64 0,.int .i64 0,.nilFunc] 114)
  have hM9:=MapV.alloc hM (.cells #[.int .i64 0,.int .i64 0,.nilFunc] 114)
  have hq2:=Blk.new w2 #[.int .i64 0,.int .i64 0,.nilFunc] 114
  have hB9:=Hd (hB2.out.alloc (by omega) (.cells #[.int .i64 0,.int .i64 0,.nilFunc] 114))
  refine hKo hK ⟨hS9,hM9⟩ (fun hS=>?_)
  clear hK K
  obtain⟨q,hqe⟩:∃q,w2.heap.size=q:=⟨_,rfl⟩
  rw[hqe]at hq2 hs2 ⊢
  have hpq:p≠q:=by omega
  have hqle:p≤q:=by omega
  generalize w2.alloc (.cells #[.int .i64 0,.int .i64 0,.nilFunc] 114)=W9 at *
  clear hqe hs2
  refine rdH 9 rfl (fun K hK=>?_)
  clear hS
  have hq3:=Hd (hq2.setRow (cs':=#[.int .i64 r1,.int .i64 r2,u]))
  have hb9:=Hd (setRow_under hB9.out hqle #[.int .i64 r1,.int .i64 r2,u])
  have hp9:=hS9.setRow_other (g:=q) (cs':=#[.int .i64 r1,.int .i64 r2,u]) hpq
  have hm9:=map_set hM9 q #[.int .i64 0,.int .i64 0,.nilFunc] #[.int .i64 r1,.int .i64 r2,u] 114 hq2
  rw[if_pos (by kernel_rfl)]
  refine wp_store_row 114 (.tmp 8) (.tmp 58) rfl q #[.int .i64 r1,.int .i64 r2,u] rfl rfl 114 #[.int .i64 0,.int .i64 0,.nilFunc] hq2.eq infoF rfl (by have h3:=hu3;simp only[Value.oneCell']at h3;simp[Value.oneCell',h3]) ?_
  refine hKo hK ⟨hp9,hm9⟩ (fun hS=>?_)
  clear hK K hq2 hB9 hp9 hm9 hM9 hS9
  refine tkH 10 ?_ rfl (fun w' hS=>?_) hS ?_
  rotate_left
  ·
   skip
   go_simp
   try with_reducible rfl
  refine wpAnyH_done (by kernel_rfl) ?_ _
  clear hS
  have hbf:Below w.heap.size w (W9.setRow q #[.int .i64 r1,.int .i64 r2,u]):=by rw[hp];exact hb9.out
  replace hbf:=Hd hbf
  clear hb9
  generalize W9.setRow q #[.int .i64 r1,.int .i64 r2,u]=W10 at *
  have y0:=hq3.out.cell 0 rfl
  have y1:=hq3.out.cell 1 rfl
  go_wp2
  go_region
  all_goals go_wp2
  all_goals go_ret3
  all_goals exact⟨rfl,Below_drewN 1 hbf.out⟩
 ·clear hS
  go_simp
  go_wp2_with fail
  have hS8:=hS0.alloc (.cells #[.int .i64 0,.int .i64 0,.nilFunc] 114)
  have hq2:=Blk.new V0 #[.int .i64 0,.int .i64 0,.nilFunc] 114
  have hB8:=Hd (hB.out.alloc (by have:=hsz1.out;omega) (.cells #[.int .i64 0,.int .i64 0,.nilFunc] 114))
  refine hKo hK hS8 (fun hS=>?_)
  clear hK K
  rw[hsz1.out]at hq2
  try rw[hsz1.out]
  have hz8:Hid ((V0.alloc (.cells #[.int .i64 0,.int .i64 0,.nilFunc] 114)).heap.size=p+2):=Hd (by rw[World.size_alloc,hsz1.out])
  generalize V0.alloc (.cells #[.int .i64 0,.int .i64 0,.nilFunc] 114)=V8 at *
  refine rdH 1 rfl (fun K hK=>?_)
  clear hS
  go_simp
  refine(functions_S V8).mono ?_
  rintro e W9 ⟨mb,nn,ff,rfl,hb2,hM9,hF⟩
  go_wp2_with fail
  have hU:=hF t
  obtain⟨u,hu1,hu2,hu3⟩:=hU
  rw[hr.out]at hu1 hu2
  unfold ent at hu1
  have hks:t.size≤maxLen:=by have:=ht2.out;simp only[maxLen];omega
  have hS9:Blk W9 p #[.int .i64 26,.string t,.int .i64 k,.bool b,.int .i64 n,.string t2,.string x2,s,.bool f,sa,sp,sm,sg] 43:=(hb2.block _ hS8.lt).trans hS8
  replace hq2:Blk W9 (p+1) #[.int .i64 0,.int .i64 0,.nilFunc] 114:=(hb2.block _ hq2.lt).trans hq2
  have hB9:=Hd (hB8.out.trans (hb2.mono (by have:=hz8.out;omega)))
  refine hK.out _ _ hS9 (fun _=>wpAnyH_mono (S':=fun V=>Blk V p #[.int .i64 26,.string t,.int .i64 k,.bool b,.int .i64 n,.string t2,.string x2,s,.bool f,sa,sp,sm,sg] 43∧MapV Tryz.prog 9 zF V mb nn ff) (fun _ h=>h.1) ?_)
  clear hK K
  try simp only[List.getElem_toArray,List.getElem_cons_succ,List.getElem_cons_zero,Act.put,List.setIfInBounds_toArray,List.set_cons_zero,List.set_cons_succ]
  have hS:Blk W9 p #[.int .i64 26,.string t,.int .i64 k,.bool b,.int .i64 n,.string t2,.string x2,s,.bool f,sa,sp,sm,sg] 43∧MapV Tryz.prog 9 zF W9 mb nn ff:=⟨hS9,hM9⟩
  refine tkS [4,5,6,7] ?_
  iterate 4
   refine tkC ?_ rfl (fun w' hS=>?_) hS ?_
   rotate_left
   ·
    have hl:=hS.2.look_ok Tryz.underlying115 Tryz.underlying9 (zero_fn _) t hks;rw[hu1,hu2]at hl
    go_simp
    try with_reducible rfl
  obtain⟨q,hqe⟩:∃q,p+1=q:=⟨_,rfl⟩
  rw[hqe]at hq2 ⊢
  have hpq:p≠q:=by omega
  have hqle:p≤q:=by omega
  clear hqe
  refine rdH 9 rfl (fun K hK=>?_)
  clear hS
  have hq3:=Hd (hq2.setRow (cs':=#[.int .i64 r1,.int .i64 r2,u]))
  have hb9:=Hd (setRow_under hB9.out hqle #[.int .i64 r1,.int .i64 r2,u])
  have hp9:=hS9.setRow_other (g:=q) (cs':=#[.int .i64 r1,.int .i64 r2,u]) hpq
  have hm9:=map_set hM9 q #[.int .i64 0,.int .i64 0,.nilFunc] #[.int .i64 r1,.int .i64 r2,u] 114 hq2
  rw[if_pos (by kernel_rfl)]
  refine wp_store_row 114 (.tmp 8) (.tmp 58) rfl q #[.int .i64 r1,.int .i64 r2,u] rfl rfl 114 #[.int .i64 0,.int .i64 0,.nilFunc] hq2.eq infoF rfl (by have h3:=hu3;simp only[Value.oneCell']at h3;simp[Value.oneCell',h3]) ?_
  refine hKo hK ⟨hp9,hm9⟩ (fun hS=>?_)
  clear hK K hq2 hB9 hp9 hm9 hM9 hS9
  refine tkH 10 ?_ rfl (fun w' hS=>?_) hS ?_
  rotate_left
  ·
   skip
   go_simp
   try with_reducible rfl
  refine wpAnyH_done (by kernel_rfl) ?_ _
  clear hS
  have hbf:Below w.heap.size w (W9.setRow q #[.int .i64 r1,.int .i64 r2,u]):=by rw[hp];exact hb9.out
  replace hbf:=Hd hbf
  clear hb9
  generalize W9.setRow q #[.int .i64 r1,.int .i64 r2,u]=W10 at *
  have y0:=hq3.out.cell 0 rfl
  have y1:=hq3.out.cell 1 rfl
  go_wp2
  go_region
  all_goals go_wp2
  all_goals go_ret3
  all_goals exact⟨rfl,Below_drewN 1 hbf.out⟩
end Go.Proofs.YtcaeipdgbaligaaGreatDoor.ex
set_option linter.unusedSimpArgs false
set_option linter.unusedVariables false
set_option maxRecDepth 100000
namespace Go.Proofs.YtcaeipdgbaligaaGreatDoor.tab
open Go.ChangeShapes Go.WideShapes Go.ChangeAt Go.RowKit kit
open hyp (RowA TextsA CellsStay stay_of_below textsV textsV_length own_row)
theorem contains_any(w:World)(ao:Option Addr)(cap:Nat)(ns:List ByteArray)(s:ByteArray)(hn:ns.length≤1048576)
 (hc:∀j (hj:j<ns.length),∃b off,ao=some ⟨b,off,none⟩∧b<w.heap.size∧w.cell? ⟨b,off+j,none⟩=some (.string ns[j])):
 Calls Tryz.prog 30 #[.slice ao ns.length cap,.string s] w fun e w'=>e=.returned (.bool (decide (s∈ns)))∧w'=w:=by
 have hi:=index_any w ao cap ns s hn hc
 have hneg:=idxI_neg ns s
 generalize idxI ns s=i at *
 replace hi:=Hd hi
 clear hc
 go_enter Tryz.func30,Tryz.ntmps30
 go_wp2_with fail
 refine hi.out.mono ?_
 rintro e w1 ⟨rfl,rfl⟩
 cases hm:decide (s∈ns) with
 | true =>
  rw[hm]at hneg
  have h0:(0:Int)≤i:=by
   have:¬i<0:=by simpa using hneg
   omega
  replace hm:=Hd hm
  clear hneg
  go_wp2
  go_ret
  exact⟨ret_bool (by first|exact hm.out.symm|(rw[decide_eq_false (show ¬(0:Int)≤i by omega)];exact hm.out.symm)),rfl⟩
 | false =>
  rw[hm]at hneg
  have h0:¬(0:Int)≤i:=by
   have:i<0:=by simpa using hneg
   omega
  replace hm:=Hd hm
  clear hneg
  go_wp2
  go_ret
  exact⟨ret_bool (by first|exact hm.out.symm|(rw[decide_eq_false (show ¬(0:Int)≤i by omega)];exact hm.out.symm)),rfl⟩
end Go.Proofs.YtcaeipdgbaligaaGreatDoor.tab
set_option linter.unusedSimpArgs false
set_option linter.unusedVariables false
set_option maxHeartbeats 4000000
namespace Go.Proofs.YtcaeipdgbaligaaGreatDoor.ex
open Go.ChangeShapes Go.WideShapes Go.ChangeAt Go.RowKit kit dec val tab
set_option maxRecDepth 100000
theorem contains5(w:World)(b:Nat)(t:ByteArray)(h:Blk w b #[.string ⟨#[99,111,117,110,116]⟩,.string ⟨#[115,117,109]⟩,.string ⟨#[109,105,110]⟩,.string ⟨#[109,97,120]⟩,.string ⟨#[97,118,103]⟩] 9):Calls Tryz.prog 30 #[.slice (some ⟨b,0,none⟩) 5 5,.string t] w fun e w'=>e=.returned (.bool (decide (t=n_count∨t=n_sum∨t=n_min∨t=n_max∨t=n_avg)))∧w'=w:=by
 have h1:=contains_any w (some ⟨b,0,none⟩) 5 [n_count,n_sum,n_min,n_max,n_avg] t (by decide) (fun j hj=>by
  refine⟨b,0,rfl,h.lt,?_⟩
  rw[Nat.zero_add]
  refine h.cell j ?_
  rcases(by simp at hj;omega:j=0∨j=1∨j=2∨j=3∨j=4) with rfl|rfl|rfl|rfl|rfl
  all_goals rfl)
 simpa using h1
theorem contains2(w:World)(b:Nat)(t:ByteArray)(h:Blk w b #[.string ⟨#[115,97,109,112,108,101]⟩,.string ⟨#[99,111,110,99,97,116]⟩] 9):Calls Tryz.prog 30 #[.slice (some ⟨b,0,none⟩) 2 2,.string t] w fun e w'=>e=.returned (.bool (decide (t=n_sample∨t=n_concat)))∧w'=w:=by
 have h1:=contains_any w (some ⟨b,0,none⟩) 2 [n_sample,n_concat] t (by decide) (fun j hj=>by
  refine⟨b,0,rfl,h.lt,?_⟩
  rw[Nat.zero_add]
  refine h.cell j ?_
  rcases(by simp at hj;omega:j=0∨j=1) with rfl|rfl
  all_goals rfl)
 simpa using h1
theorem contains1(w:World)(b:Nat)(t:ByteArray)(h:Blk w b #[.string ⟨#[99,111,108,108,101,99,116]⟩] 9):Calls Tryz.prog 30 #[.slice (some ⟨b,0,none⟩) 1 1,.string t] w fun e w'=>e=.returned (.bool (decide (t=n_collect)))∧w'=w:=by
 have h1:=contains_any w (some ⟨b,0,none⟩) 1 [n_collect] t (by decide) (fun j hj=>by
  refine⟨b,0,rfl,h.lt,?_⟩
  rw[Nat.zero_add]
  refine h.cell j ?_
  obtain rfl:j=0:=by simp at hj;omega
  rfl)
 simpa using h1
theorem text_lit(t n:ByteArray):(t.toList==n.toList)=decide (t=n):=text_eq t n
theorem takes_agg_false(w:World)(t:ByteArray)(k:Int)(b:Bool)(n:Int)(t2 x2:ByteArray)(s:Value)(f:Bool)(sa sp sm sg:Value):
 Calls Tryz.prog 47 #[.int .i64 0,.agg (c13 28 t k b n t2 x2 s f sa sp sm sg)] w fun e w'=>e=.returned (tupOf (tagg false t))∧Below w.heap.size w w':=by
 unfold c13
 obtain⟨W,hW⟩:∃W,((((w.alloc (.cells #[.int .i64 28,.string t,.int .i64 k,.bool b,.int .i64 n,.string t2,.string x2,s,.bool f,sa,sp,sm,sg] 43)).alloc (.cells #[.string ⟨#[99,111,117,110,116]⟩,.string ⟨#[115,117,109]⟩,.string ⟨#[109,105,110]⟩,.string ⟨#[109,97,120]⟩,.string ⟨#[97,118,103]⟩] 9)).alloc (.cells #[.string ⟨#[115,97,109,112,108,101]⟩,.string ⟨#[99,111,110,99,97,116]⟩] 9)).alloc (.cells #[.string ⟨#[99,111,108,108,101,99,116]⟩] 9))=W:=⟨_,rfl⟩
 have hq0:Blk W w.heap.size #[.int .i64 28,.string t,.int .i64 k,.bool b,.int .i64 n,.string t2,.string x2,s,.bool f,sa,sp,sm,sg] 43:=by
  rw[←hW]
  exact(((Blk.new _ _ _).alloc _).alloc _).alloc _
 have hq1:Blk W (w.heap.size+1) #[.string ⟨#[99,111,117,110,116]⟩,.string ⟨#[115,117,109]⟩,.string ⟨#[109,105,110]⟩,.string ⟨#[109,97,120]⟩,.string ⟨#[97,118,103]⟩] 9:=by
  rw[←hW]
  have:=Blk.new (w.alloc (.cells #[.int .i64 28,.string t,.int .i64 k,.bool b,.int .i64 n,.string t2,.string x2,s,.bool f,sa,sp,sm,sg] 43)) #[.string ⟨#[99,111,117,110,116]⟩,.string ⟨#[115,117,109]⟩,.string ⟨#[109,105,110]⟩,.string ⟨#[109,97,120]⟩,.string ⟨#[97,118,103]⟩] 9
  rw[World.size_alloc]at this
  exact(this.alloc _).alloc _
 have hq2:Blk W (w.heap.size+3) #[.string ⟨#[99,111,108,108,101,99,116]⟩] 9:=by
  rw[←hW]
  have:=Blk.new (((w.alloc (.cells #[.int .i64 28,.string t,.int .i64 k,.bool b,.int .i64 n,.string t2,.string x2,s,.bool f,sa,sp,sm,sg] 43)).alloc (.cells #[.string ⟨#[99,111,117,110,116]⟩,.string ⟨#[115,117,109]⟩,.string ⟨#[109,105,110]⟩,.string ⟨#[109,97,120]⟩,.string ⟨#[97,118,103]⟩] 9)).alloc (.cells #[.string ⟨#[115,97,109,112,108,101]⟩,.string ⟨#[99,111,110,99,97,116]⟩] 9)) #[.string ⟨#[99,111,108,108,101,99,116]⟩] 9
  simp only[World.size_alloc]at this
  exact this
 have hal:Below w.heap.size w W:=by
  rw[←hW]
  exact((((Below.refl _ _).alloc (Nat.le_refl _) _).alloc (by simp only[World.size_alloc];omega) _).alloc (by simp only[World.size_alloc];omega) _).alloc (by simp only[World.size_alloc];omega) _
 have d1:=contains5 W (w.heap.size+1) t hq1
 have d2:=contains1 W (w.heap.size+3) t hq2
 have htl:(t.toList==[99,111,117,110,116])=decide (t=n_count):=by
  have h1:=text_lit t n_count
  rwa [show n_count.toList=[99,111,117,110,116] by rw[Go.ByteArray.toList_eq];rfl]at h1
 have hr:tagg false t=(if decide (t=n_count)=true then 0 else 1,1,decide (t=n_count∨t=n_sum∨t=n_min∨t=n_max∨t=n_avg)||decide (t=n_collect)):=by
  unfold tagg
  simp
 rw[hr]
 unfold tupOf tup3
 dsimp only
 generalize decide (t=n_count∨t=n_sum∨t=n_min∨t=n_max∨t=n_avg)=c1 at *
 generalize decide (t=n_collect)=c2 at *
 generalize decide (t=n_count)=c0 at *
 have x0:=(Blk.new w #[.int .i64 28,.string t,.int .i64 k,.bool b,.int .i64 n,.string t2,.string x2,s,.bool f,sa,sp,sm,sg] 43).cell 0 rfl
 have x1:=(Blk.new w #[.int .i64 28,.string t,.int .i64 k,.bool b,.int .i64 n,.string t2,.string x2,s,.bool f,sa,sp,sm,sg] 43).cell 1 rfl
 have y1:=hq0.cell 1 rfl
 replace hW:=Hd hW
 replace hal:=Hd hal
 replace d1:=Hd d1
 replace d2:=Hd d2
 clear hq0 hq1 hq2 hr
 go_enter Tryz.func47,Tryz.ntmps47
 go_upto_region 45 with fail
 rw[show((((w.alloc (.cells #[.int .i64 28,.string t,.int .i64 k,.bool b,.int .i64 n,.string t2,.string x2,s,.bool f,sa,sp,sm,sg] 43)).alloc (.cells #[.string ⟨#[99,111,117,110,116]⟩,.string ⟨#[115,117,109]⟩,.string ⟨#[109,105,110]⟩,.string ⟨#[109,97,120]⟩,.string ⟨#[97,118,103]⟩] 9)).alloc (.cells #[.string ⟨#[115,97,109,112,108,101]⟩,.string ⟨#[99,111,110,99,97,116]⟩] 9)).alloc (.cells #[.string ⟨#[99,111,108,108,101,99,116]⟩] 9))=W from hW.out]
 clear x0 x1
 cases c0
 all_goals
  go_wp2_with fail
  refine d1.out.mono ?_
  rintro e w2 ⟨rfl,rfl⟩
  cases c1
 all_goals first
  |(go_wp2;go_ret3;exact⟨rfl,hal.out⟩)
  |(go_wp2_with fail;refine d2.out.mono ?_;rintro e w3 ⟨rfl,rfl⟩;go_wp2;go_ret3;exact⟨rfl,hal.out⟩)
theorem takes_agg_true(w:World)(t:ByteArray)(k:Int)(b:Bool)(n:Int)(t2 x2:ByteArray)(s:Value)(f:Bool)(sa sp sm sg:Value):
 Calls Tryz.prog 47 #[.int .i64 1,.agg (c13 28 t k b n t2 x2 s f sa sp sm sg)] w fun e w'=>e=.returned (tupOf (tagg true t))∧Below w.heap.size w w':=by
 unfold c13
 obtain⟨W,hW⟩:∃W,(((w.alloc (.cells #[.int .i64 28,.string t,.int .i64 k,.bool b,.int .i64 n,.string t2,.string x2,s,.bool f,sa,sp,sm,sg] 43)).alloc (.cells #[.string ⟨#[99,111,117,110,116]⟩,.string ⟨#[115,117,109]⟩,.string ⟨#[109,105,110]⟩,.string ⟨#[109,97,120]⟩,.string ⟨#[97,118,103]⟩] 9)).alloc (.cells #[.string ⟨#[115,97,109,112,108,101]⟩,.string ⟨#[99,111,110,99,97,116]⟩] 9))=W:=⟨_,rfl⟩
 have hq0:Blk W w.heap.size #[.int .i64 28,.string t,.int .i64 k,.bool b,.int .i64 n,.string t2,.string x2,s,.bool f,sa,sp,sm,sg] 43:=by
  rw[←hW]
  exact((Blk.new _ _ _).alloc _).alloc _
 have hq1:Blk W (w.heap.size+1) #[.string ⟨#[99,111,117,110,116]⟩,.string ⟨#[115,117,109]⟩,.string ⟨#[109,105,110]⟩,.string ⟨#[109,97,120]⟩,.string ⟨#[97,118,103]⟩] 9:=by
  rw[←hW]
  have:=Blk.new (w.alloc (.cells #[.int .i64 28,.string t,.int .i64 k,.bool b,.int .i64 n,.string t2,.string x2,s,.bool f,sa,sp,sm,sg] 43)) #[.string ⟨#[99,111,117,110,116]⟩,.string ⟨#[115,117,109]⟩,.string ⟨#[109,105,110]⟩,.string ⟨#[109,97,120]⟩,.string ⟨#[97,118,103]⟩] 9
  rw[World.size_alloc]at this
  exact this.alloc _
 have hq2:Blk W (w.heap.size+2) #[.string ⟨#[115,97,109,112,108,101]⟩,.string ⟨#[99,111,110,99,97,116]⟩] 9:=by
  rw[←hW]
  have:=Blk.new ((w.alloc (.cells #[.int .i64 28,.string t,.int .i64 k,.bool b,.int .i64 n,.string t2,.string x2,s,.bool f,sa,sp,sm,sg] 43)).alloc (.cells #[.string ⟨#[99,111,117,110,116]⟩,.string ⟨#[115,117,109]⟩,.string ⟨#[109,105,110]⟩,.string ⟨#[109,97,120]⟩,.string ⟨#[97,118,103]⟩] 9)) #[.string ⟨#[115,97,109,112,108,101]⟩,.string ⟨#[99,111,110,99,97,116]⟩] 9
  simp only[World.size_alloc]at this
  exact this
 have hal:Below w.heap.size w W:=by
  rw[←hW]
  exact(((Below.refl _ _).alloc (Nat.le_refl _) _).alloc (by simp only[World.size_alloc];omega) _).alloc (by simp only[World.size_alloc];omega) _
 have d1:=contains5 W (w.heap.size+1) t hq1
 have d2:=contains2 W (w.heap.size+2) t hq2
 have htl:(t.toList==[99,111,117,110,116])=decide (t=n_count):=by
  have h1:=text_lit t n_count
  rwa [show n_count.toList=[99,111,117,110,116] by rw[Go.ByteArray.toList_eq];rfl]at h1
 have hr:tagg true t=(if decide (t=n_count)=true then 0 else 1,1,decide (t=n_count∨t=n_sum∨t=n_min∨t=n_max∨t=n_avg)||decide (t=n_sample∨t=n_concat)):=by
  unfold tagg
  simp
 rw[hr]
 unfold tupOf tup3
 dsimp only
 generalize decide (t=n_count∨t=n_sum∨t=n_min∨t=n_max∨t=n_avg)=c1 at *
 generalize decide (t=n_sample∨t=n_concat)=c2 at *
 generalize decide (t=n_count)=c0 at *
 have x0:=(Blk.new w #[.int .i64 28,.string t,.int .i64 k,.bool b,.int .i64 n,.string t2,.string x2,s,.bool f,sa,sp,sm,sg] 43).cell 0 rfl
 have x1:=(Blk.new w #[.int .i64 28,.string t,.int .i64 k,.bool b,.int .i64 n,.string t2,.string x2,s,.bool f,sa,sp,sm,sg] 43).cell 1 rfl
 have y1:=hq0.cell 1 rfl
 replace hW:=Hd hW
 replace hal:=Hd hal
 replace d1:=Hd d1
 replace d2:=Hd d2
 clear hq0 hq1 hq2 hr
 go_enter Tryz.func47,Tryz.ntmps47
 go_upto_region 45 with fail
 rw[show(((w.alloc (.cells #[.int .i64 28,.string t,.int .i64 k,.bool b,.int .i64 n,.string t2,.string x2,s,.bool f,sa,sp,sm,sg] 43)).alloc (.cells #[.string ⟨#[99,111,117,110,116]⟩,.string ⟨#[115,117,109]⟩,.string ⟨#[109,105,110]⟩,.string ⟨#[109,97,120]⟩,.string ⟨#[97,118,103]⟩] 9)).alloc (.cells #[.string ⟨#[115,97,109,112,108,101]⟩,.string ⟨#[99,111,110,99,97,116]⟩] 9))=W from hW.out]
 clear x0 x1
 cases c0
 all_goals
  go_wp2_with fail
  refine d1.out.mono ?_
  rintro e w2 ⟨rfl,rfl⟩
  cases c1
 all_goals first
  |(go_wp2;go_ret3;exact⟨rfl,hal.out⟩)
  |(go_wp2_with fail;refine d2.out.mono ?_;rintro e w3 ⟨rfl,rfl⟩;go_wp2;go_ret3;exact⟨rfl,hal.out⟩)
theorem takes_all(w:World)(sg0:Bool)(op:Int)(t:ByteArray)(ht:t.size≤1048576)(k:Int)(b:Bool)(n:Int)(t2 x2:ByteArray)(s:Value)(f:Bool)(ao:Option Addr)(m cap:Nat)(hm:m≤1048576)(sp sm sg:Value):
 Calls Tryz.prog 47 #[.int .i64 (sI sg0),.agg (c13 op t k b n t2 x2 s f (.slice ao m cap) sp sm sg)] w fun e w'=>e=.returned (tupOf (tk3 sg0 op t m))∧Below w.heap.size w w':=by
 by_cases h26:op=26
 ·subst h26
  have e:tk3 sg0 26 t m=tcall sg0 t:=rfl
  rw[e]
  cases sg0
  ·exact takes_call_false w t ht k b n t2 x2 s f _ sp sm sg
  ·exact takes_call_true w t ht k b n t2 x2 s f _ sp sm sg
 by_cases h28:op=28
 ·subst h28
  have e:tk3 sg0 28 t m=tagg sg0 t:=rfl
  rw[e]
  cases sg0
  ·exact takes_agg_false w t k b n t2 x2 s f _ sp sm sg
  ·exact takes_agg_true w t k b n t2 x2 s f _ sp sm sg
 rw[←takes_tk3 sg0 op t m h26 h28]
 exact takes_any w sg0 op h26 h28 t k b n t2 x2 s f ao m cap hm sp sm sg
end Go.Proofs.YtcaeipdgbaligaaGreatDoor.ex
