/- And of what is false and what errs, in S. -/
import Derived.Test.YtcaeipdgbaligaaGreatDoorXWkA
set_option linter.unusedSimpArgs false
set_option linter.unusedVariables false
set_option maxHeartbeats 8000000
namespace Go.Proofs.YtcaeipdgbaligaaGreatDoor.ex
open Go.ChangeShapes Go.WideShapes Go.ChangeAt Go.RowKit kit dec val tab logic
open hyp (RowA TextsA textsV textsV_length news_one own_row)
set_option maxRecDepth 100000
def erS(i:Nat):Int:=if i=2 then 3 else 0
theorem logicalS(tx:ByteArray)(kk:Int)(bb:Bool)(nn:Int)(t2 u2:ByteArray)(a1:Option Addr)(a2 a3:Nat)(f:Bool)(aa:Option Addr)(ca:Nat)(ap:Option Addr)(plan cp:Nat)(am:Option Addr)(mt cm:Nat)(ag:Option Addr)(gp cg:Nat)(xA xB:X)(w:World)(hE:Env w)(eb:Nat)(iv:Value)(hbe:Blk w eb #[.int .i64 1,iv] 68)(hs:XS w 1048576 (.slice aa [xA,xB].length ca) [xA,xB])
 (cA:∀W u,Below w.heap.size w W→XV W 1048576 u xA→Calls Tryz.prog 22 #[.pointer (some ⟨eb,0,none⟩),u] W (EvG (fun u=>u=boolV1 false) W))
 (cE:∀W u,Below w.heap.size w W→XV W 1048576 u xB→Calls Tryz.prog 22 #[.pointer (some ⟨eb,0,none⟩),u] W (EvE 3 W)):
 Calls Tryz.prog 56 #[.pointer (some ⟨eb,0,none⟩),.agg #[.int .i64 6,.string tx,.int .i64 kk,.bool bb,.int .i64 nn,.string t2,.string u2,.slice a1 a2 a3,.bool f,.slice aa 2 ca,.slice ap plan cp,.slice am mt cm,.slice ag gp cg]] w (EvG (fun u=>u=boolV1 false) w):=by
 obtain⟨i0,hi0,hy0,hy1,hy2⟩:=info_parts infoInt
 obtain⟨W,hW⟩:∃W,(w.alloc (.cells #[.int .i64 6,.string tx,.int .i64 kk,.bool bb,.int .i64 nn,.string t2,.string u2,.slice a1 a2 a3,.bool f,.slice aa 2 ca,.slice ap plan cp,.slice am mt cm,.slice ag gp cg] 43)).alloc (.cells #[.int .i64 0,.bool false,.int .i64 0,.string ⟨#[]⟩,.string ⟨#[]⟩,.slice none 0 0] 38)=W:=⟨_,rfl⟩
 have hq0:Blk W w.heap.size #[.int .i64 6,.string tx,.int .i64 kk,.bool bb,.int .i64 nn,.string t2,.string u2,.slice a1 a2 a3,.bool f,.slice aa 2 ca,.slice ap plan cp,.slice am mt cm,.slice ag gp cg] 43:=by rw[←hW];exact(Blk.new w #[.int .i64 6,.string tx,.int .i64 kk,.bool bb,.int .i64 nn,.string t2,.string u2,.slice a1 a2 a3,.bool f,.slice aa 2 ca,.slice ap plan cp,.slice am mt cm,.slice ag gp cg] 43).alloc (.cells #[.int .i64 0,.bool false,.int .i64 0,.string ⟨#[]⟩,.string ⟨#[]⟩,.slice none 0 0] 38)
 have hq1:Blk W (w.heap.size+1) #[.int .i64 0,.bool false,.int .i64 0,.string ⟨#[]⟩,.string ⟨#[]⟩,.slice none 0 0] 38:=by
  rw[←hW]
  have:=Blk.new (w.alloc (.cells #[.int .i64 6,.string tx,.int .i64 kk,.bool bb,.int .i64 nn,.string t2,.string u2,.slice a1 a2 a3,.bool f,.slice aa 2 ca,.slice ap plan cp,.slice am mt cm,.slice ag gp cg] 43)) #[.int .i64 0,.bool false,.int .i64 0,.string ⟨#[]⟩,.string ⟨#[]⟩,.slice none 0 0] 38
  rw[World.size_alloc]at this
  exact this
 have hal:Below w.heap.size w W:=by rw[←hW];exact((Below.refl _ _).alloc (Nat.le_refl _) _).alloc (by rw[World.size_alloc];omega) _
 have hszW:W.heap.size=w.heap.size+2:=by rw[←hW];simp only[World.size_alloc]
 have hbeW:Blk W eb #[.int .i64 1,iv] 68:=(hal.block _ hbe.lt).trans hbe
 have heb:=hbe.lt
 have x9:=hq0.cell 9 rfl
 have z0:=hbeW.cell 0 rfl
 have hs2:XS W 1048576 (.slice aa [xA,xB].length ca) [xA,xB]:=XS.stay hal hs
 obtain⟨bA,oA,csA,rfl,hr0,hx0⟩:=xs_at hs2 0 (by simp)
 obtain⟨bB,oB,csB,hBB,hr1,hx1⟩:=xs_at hs2 1 (by simp)
 cases hBB
 rw[Nat.zero_mul,Nat.add_zero]at hr0
 rw[Nat.one_mul]at hr1
 have hx0:XV W 1048576 (.agg csA) xA:=hx0
 have hx1:XV W 1048576 (.agg csB) xB:=hx1
 replace hi0:=Hd hi0
 replace hy0:=Hd hy0
 replace hy1:=Hd hy1
 replace hy2:=Hd hy2
 replace hq0:=Hd hq0
 replace hq1:=Hd hq1
 replace hal:=Hd hal
 replace hW:=Hd hW
 replace hszW:=Hd hszW
 replace hbeW:=Hd hbeW
 replace heb:=Hd heb
 replace hr0:=Hd hr0
 replace hr1:=Hd hr1
 replace hx0:=Hd hx0
 replace hx1:=Hd hx1
 replace cA:=Hd cA
 replace cE:=Hd cE
 clear hbe hs hs2
 have hargi:Hid ([xA,xB].length=2):=Hd rfl
 go_enter Tryz.func56,Tryz.ntmps56
 go_upto_region 1 with fail
 rw[hW.out]
 go_wp2
 clear x9 z0
 go_loopw [6,7,28] (fun v6 v7 v wr=>∃(i:Nat) (L:List Int) (er:Int),i≤2∧v=.int .i64 (i:Int)∧v7=.int .i64 er∧Hid (er=erS i)∧Hid (L=[0,2].take i)∧Hid (wr.ownsRow W.heap.size 3 1 v6 (L.map (Value.int .i64)).length (L.map (Value.int .i64)))∧Hid (Below W.heap.size W wr)) (fun _ _ v _=>2-(intOf v).toNat)
 case atStart=>exact⟨0,[],0,by omega,rfl,rfl,Hd rfl,Hd rfl,Hd (World.ownsRow_nil _ _ _ _),Hd (Below.refl _ _)⟩
 case round =>
  obtain⟨i,L,er,hi,rfl,rfl,her,hL,hown,hbr⟩:=hrel
  obtain⟨wq,rfl⟩:∃wq:World,wq=wr:=⟨_,rfl⟩
  by_cases hlt:i<2
  ·obtain rfl:er=0:=by rw[her.out];unfold erS;rw[if_neg (by omega)]
   clear her
   obtain rfl|rfl:i=0∨i=1:=by omega
   ·obtain⟨o1,s1,k2,b1,n1,s2,s3,e1,e2,e3,f1,e4,e5,e6,e7,e8,e9,d1,d2,d3,d4,d5,d6,rfl⟩:=hx0.out.form
    obtain⟨y0,y1,y2,y3,y4,y5,y6,y7,y8,y9,y10,y11,y12⟩:=(hr0.out.below hbr.out).all
    have hbA:=hbr.out.alloc hbr.out.size (.cells #[.int .i64 o1,.string s1,.int .i64 k2,.bool b1,.int .i64 n1,.string s2,.string s3,.slice e1 e2 e3,.bool f1,.slice e4 e5 e6,.slice e7 e8 e9,.slice d1 d2 d3,.slice d4 d5 d6] 43)
    have hnA:=Blk.new wq #[.int .i64 o1,.string s1,.int .i64 k2,.bool b1,.int .i64 n1,.string s2,.string s3,.slice e1 e2 e3,.bool f1,.slice e4 e5 e6,.slice e7 e8 e9,.slice d1 d2 d3,.slice d4 d5 d6] 43
    have hal1:Below wq.heap.size wq (wq.alloc (.cells #[.int .i64 o1,.string s1,.int .i64 k2,.bool b1,.int .i64 n1,.string s2,.string s3,.slice e1 e2 e3,.bool f1,.slice e4 e5 e6,.slice e7 e8 e9,.slice d1 d2 d3,.slice d4 d5 d6] 43)):=(Below.refl _ _).alloc (Nat.le_refl _) _
    have hcall:=cA.out (wq.alloc (.cells #[.int .i64 o1,.string s1,.int .i64 k2,.bool b1,.int .i64 n1,.string s2,.string s3,.slice e1 e2 e3,.bool f1,.slice e4 e5 e6,.slice e7 e8 e9,.slice d1 d2 d3,.slice d4 d5 d6] 43)) _ (hal.out.trans (hbA.mono hal.out.size)) (hx0.out.stay hbA)
    have hownA1:(wq.alloc (.cells #[.int .i64 o1,.string s1,.int .i64 k2,.bool b1,.int .i64 n1,.string s2,.string s3,.slice e1 e2 e3,.bool f1,.slice e4 e5 e6,.slice e7 e8 e9,.slice d1 d2 d3,.slice d4 d5 d6] 43)).ownsRow W.heap.size 3 1 _ (L.map (Value.int .i64)).length (L.map (Value.int .i64)):=hown.out.alloc _
    have t0:=hnA.cell 0 rfl
    have t1:=hnA.cell 1 rfl
    have t2a:=hnA.cell 2 rfl
    have t3:=hnA.cell 3 rfl
    have t4:=hnA.cell 4 rfl
    have t5:=hnA.cell 5 rfl
    have t6:=hnA.cell 6 rfl
    have t7:=hnA.cell 7 rfl
    have t8:=hnA.cell 8 rfl
    have t9:=hnA.cell 9 rfl
    have t10:=hnA.cell 10 rfl
    have t11:=hnA.cell 11 rfl
    have t12:=hnA.cell 12 rfl
    unfold c13 at hcall
    replace hcall:=Hd hcall
    replace hbA:=Hd hbA
    replace hownA1:=Hd hownA1
    clear hnA hal1 hbr hown
    go_wp2_with fail
    refine hcall.out.mono ?_
    rintro e w5 ⟨k,b,n,t,x,ao,cap,l,rfl,hb5,hl5,hok5,hm5⟩
    clear hcall y0 y1 y2 y3 y4 y5 y6 y7 y8 y9 y10 y11 y12
    clear t0 t1 t2a t3 t4 t5 t6 t7 t8 t9 t10 t11 t12
    unfold boolV1 at hm5
    injection hm5 with g1 g2 g3 g4 g5 g6
    subst g1 g2 g3 g4 g5 g6
    unfold agg6
    have hB5:=hbA.out.trans (hb5.mono hbA.out.size)
    have hal6:Below w5.heap.size w5 (w5.alloc (.cells #[.int .i64 1,.bool false,.int .i64 0,.string ⟨#[]⟩,.string ⟨#[]⟩,.slice ao 0 cap] 38)):=(Below.refl _ _).alloc (Nat.le_refl _) _
    have hd7:Below w5.heap.size w5 (w5.alloc (.cells #[.int .i64 1,.bool false,.int .i64 0,.string ⟨#[]⟩,.string ⟨#[]⟩,.slice ao 0 cap] 38)).drew:=Below_drewN 1 hal6
    have hB7:=hB5.trans (hd7.mono hB5.size)
    have hown7:(w5.alloc (.cells #[.int .i64 1,.bool false,.int .i64 0,.string ⟨#[]⟩,.string ⟨#[]⟩,.slice ao 0 cap] 38)).drew.ownsRow W.heap.size 3 1 _ (L.map (Value.int .i64)).length (L.map (Value.int .i64)):=own_stay hownA1.out fun g hg=>by
     have hg1:=(hownA1.out.lt g hg).2
     exact(hd7.block g (Nat.lt_of_lt_of_le hg1 hb5.size)).trans (hb5.block g hg1)
    have hS0:Blk (w5.alloc (.cells #[.int .i64 1,.bool false,.int .i64 0,.string ⟨#[]⟩,.string ⟨#[]⟩,.slice ao 0 cap] 38)).drew eb #[.int .i64 1,iv] 68∧Blk (w5.alloc (.cells #[.int .i64 1,.bool false,.int .i64 0,.string ⟨#[]⟩,.string ⟨#[]⟩,.slice ao 0 cap] 38)).drew w5.heap.size #[.int .i64 1,.bool false,.int .i64 0,.string ⟨#[]⟩,.string ⟨#[]⟩,.slice ao 0 cap] 38:=⟨(hB7.block _ hbeW.out.lt).trans hbeW.out,Blk.new w5 #[.int .i64 1,.bool false,.int .i64 0,.string ⟨#[]⟩,.string ⟨#[]⟩,.slice ao 0 cap] 38⟩
    have cO:=xof_s (w5.alloc (.cells #[.int .i64 1,.bool false,.int .i64 0,.string ⟨#[]⟩,.string ⟨#[]⟩,.slice ao 0 cap] 38)).drew (hE.below (hal.out.trans (hB7.mono hal.out.size))) false ao cap ((hl5.toLA).stay hd7)
    have hq6:=Blk.new w5 #[.int .i64 1,.bool false,.int .i64 0,.string ⟨#[]⟩,.string ⟨#[]⟩,.slice ao 0 cap] 38
    have u0:=hq6.cell 0 rfl
    have u1:=hq6.cell 1 rfl
    have u2a:=hq6.cell 2 rfl
    have u3:=hq6.cell 3 rfl
    have u4:=hq6.cell 4 rfl
    have u5:=hq6.cell 5 rfl
    replace cO:=Hd cO
    replace hown7:=Hd hown7
    replace hB7:=Hd hB7
    clear hb5 hl5 hok5 hB5 hal6 hd7 hbA hownA1 hq6
    go_upto_region 10 with fail
    clear u0 u1 u2a u3 u4 u5
    refine wp_region_held_drew (S:=fun V=>Blk V eb #[.int .i64 1,iv] 68∧Blk V w5.heap.size #[.int .i64 1,.bool false,.int .i64 0,.string ⟨#[]⟩,.string ⟨#[]⟩,.slice ao 0 cap] 38) (by kernel_rfl) hS0 (fun hS=>?_)
    generalize (w5.alloc (.cells #[.int .i64 1,.bool false,.int .i64 0,.string ⟨#[]⟩,.string ⟨#[]⟩,.slice ao 0 cap] 38)).drew=V0 at *
    refine tkS [0,1,2,3,4] ?_
    iterate 5
     refine tkC ?_ rfl (fun w' hS=>?_) hS ?_
     rotate_left
     ·
      have e0:=hS.1.cell 0 rfl;have y0:=hS.2.cell 0 rfl;have y1:=hS.2.cell 1 rfl;have y2:=hS.2.cell 2 rfl;have y3:=hS.2.cell 3 rfl;have y4:=hS.2.cell 4 rfl;have y5:=hS.2.cell 5 rfl
      go_simp
      try with_reducible rfl
    refine rdH 5 rfl (fun K hK=>?_)
    clear hS
    go_simp
    refine(cO.out).mono ?_
    rintro e w8 ⟨rfl,hb8⟩
    go_wp2_with fail
    refine hKo hK (⟨(hb8.block _ hS0.1.lt).trans hS0.1,(hb8.block _ hS0.2.lt).trans hS0.2⟩) (fun hS=>?_)
    clear hK K
    refine tkS [6,7,8,9,10] ?_
    iterate 5
     refine tkC ?_ rfl (fun w' hS=>?_) hS ?_
     rotate_left
     ·
      skip
      go_simp
      try with_reducible rfl
    refine wpAnyH_done (by kernel_rfl) ?_ _
    clear hS
    have hown8:Hid (w8.ownsRow W.heap.size 3 1 _ (L.map (Value.int .i64)).length (L.map (Value.int .i64))):=Hd (own_stay hown7.out fun g hg=>hb8.block g (hown7.out.lt g hg).2)
    have hB8:=Hd (hB7.out.trans (hb8.mono hB7.out.size))
    clear hb8 hS0 hown7 hB7 cO
    rw[show tvB false=0 from rfl]
    have hnw:=news_one w8 (.int .i64 (0)) 3
    have hLn:(L.map (Value.int .i64)).length≤2:=by rw[List.length_map,hL.out,List.length_take];simp<;>omega
    have hownA:(w8.alloc (.cells #[.int .i64 (0)] 3)).ownsRow W.heap.size 3 1 _ (L.map (Value.int .i64)).length (L.map (Value.int .i64)):=hown8.out.alloc _
    replace hnw:=Hd hnw
    replace hownA:=Hd hownA
    replace hLn:=Hd hLn
    clear hown8
    go_wp2_with (at_builtin;refine wpList_append_own _ rfl _ _ 138 rfl W.heap.size 3 i0 (.int .i64 0) 1 8 Tryz.underlying138 hi0.out hy0.out hy1.out hy2.out rfl (by decide) _ _ _ rfl hownA.out _ 1 _ [.int .i64 (0)] rfl rfl hnw.out ?la ?lb ?lc ?ld ?le)
    case la=>simp[Value.oneCell']
    case lb=>have:=hLn.out;simp only[maxLen];omega
    case lc=>have:=hLn.out;omega
    case ld=>rw[World.size_alloc];have:=hB8.out.size;omega
    case le=>
     intro v9 w9 h1 h2 _
     have h3:Hid (w9.ownsRow W.heap.size 3 1 v9 ((L++[0]).map (Value.int .i64)).length ((L++[0]).map (Value.int .i64))):=Hd (by
      have e1:(L++[0]).map (Value.int .i64)=L.map (Value.int .i64)++[.int .i64 (0)]:=by simp
      rw[e1,List.length_append,List.length_map]
      exact h1)
     have hB9:=Hd (Below.grown (hB8.out.alloc hB8.out.size (.cells #[.int .i64 (0)] 3)) h2 (by rw[World.size_alloc];have:=hB8.out.size;omega) (fun g hg=>(hownA.out.lt g hg).1))
     clear h1 h2 hownA hnw hB8
     go_wp2
     go_roundw
     case rel=>exact⟨1,_,_,by decide,by go_num,rfl,Hd rfl,Hd (by rw[hL.out];rfl),h3,hB9⟩
     case measure=>simp[intOf]
   ·skip
    obtain⟨o1,s1,k2,b1,n1,s2,s3,e1,e2,e3,f1,e4,e5,e6,e7,e8,e9,d1,d2,d3,d4,d5,d6,rfl⟩:=hx1.out.form
    obtain⟨y0,y1,y2,y3,y4,y5,y6,y7,y8,y9,y10,y11,y12⟩:=(hr1.out.below hbr.out).all
    have hbA:=hbr.out.alloc hbr.out.size (.cells #[.int .i64 o1,.string s1,.int .i64 k2,.bool b1,.int .i64 n1,.string s2,.string s3,.slice e1 e2 e3,.bool f1,.slice e4 e5 e6,.slice e7 e8 e9,.slice d1 d2 d3,.slice d4 d5 d6] 43)
    have hnA:=Blk.new wq #[.int .i64 o1,.string s1,.int .i64 k2,.bool b1,.int .i64 n1,.string s2,.string s3,.slice e1 e2 e3,.bool f1,.slice e4 e5 e6,.slice e7 e8 e9,.slice d1 d2 d3,.slice d4 d5 d6] 43
    have hal1:Below wq.heap.size wq (wq.alloc (.cells #[.int .i64 o1,.string s1,.int .i64 k2,.bool b1,.int .i64 n1,.string s2,.string s3,.slice e1 e2 e3,.bool f1,.slice e4 e5 e6,.slice e7 e8 e9,.slice d1 d2 d3,.slice d4 d5 d6] 43)):=(Below.refl _ _).alloc (Nat.le_refl _) _
    have hcall:=cE.out (wq.alloc (.cells #[.int .i64 o1,.string s1,.int .i64 k2,.bool b1,.int .i64 n1,.string s2,.string s3,.slice e1 e2 e3,.bool f1,.slice e4 e5 e6,.slice e7 e8 e9,.slice d1 d2 d3,.slice d4 d5 d6] 43)) _ (hal.out.trans (hbA.mono hal.out.size)) (hx1.out.stay hbA)
    have hownA1:(wq.alloc (.cells #[.int .i64 o1,.string s1,.int .i64 k2,.bool b1,.int .i64 n1,.string s2,.string s3,.slice e1 e2 e3,.bool f1,.slice e4 e5 e6,.slice e7 e8 e9,.slice d1 d2 d3,.slice d4 d5 d6] 43)).ownsRow W.heap.size 3 1 _ (L.map (Value.int .i64)).length (L.map (Value.int .i64)):=hown.out.alloc _
    have t0:=hnA.cell 0 rfl
    have t1:=hnA.cell 1 rfl
    have t2a:=hnA.cell 2 rfl
    have t3:=hnA.cell 3 rfl
    have t4:=hnA.cell 4 rfl
    have t5:=hnA.cell 5 rfl
    have t6:=hnA.cell 6 rfl
    have t7:=hnA.cell 7 rfl
    have t8:=hnA.cell 8 rfl
    have t9:=hnA.cell 9 rfl
    have t10:=hnA.cell 10 rfl
    have t11:=hnA.cell 11 rfl
    have t12:=hnA.cell 12 rfl
    unfold c13 at hcall
    replace hcall:=Hd hcall
    replace hbA:=Hd hbA
    replace hownA1:=Hd hownA1
    clear hnA hal1 hbr hown
    go_wp2_with fail
    refine hcall.out.mono ?_
    rintro e w5 ⟨k,b,n,t,x,ao,m,cap,rfl,hb5⟩
    clear hcall y0 y1 y2 y3 y4 y5 y6 y7 y8 y9 y10 y11 y12
    clear t0 t1 t2a t3 t4 t5 t6 t7 t8 t9 t10 t11 t12
    unfold agg6
    have hB5:=hbA.out.trans (hb5.mono hbA.out.size)
    have hal6:Below w5.heap.size w5 (w5.alloc (.cells #[.int .i64 k,.bool b,.int .i64 n,.string t,.string x,.slice ao m cap] 38)):=(Below.refl _ _).alloc (Nat.le_refl _) _
    obtain⟨w8,hw8⟩:∃w8,w5.alloc (.cells #[.int .i64 k,.bool b,.int .i64 n,.string t,.string x,.slice ao m cap] 38)=w8:=⟨_,rfl⟩
    have hB8:=Hd (hB5.trans (hal6.mono hB5.size))
    have hown8:Hid ((w5.alloc (.cells #[.int .i64 k,.bool b,.int .i64 n,.string t,.string x,.slice ao m cap] 38)).ownsRow W.heap.size 3 1 _ (L.map (Value.int .i64)).length (L.map (Value.int .i64))):=Hd (own_stay hownA1.out fun g hg=>by
     have hg1:=(hownA1.out.lt g hg).2
     exact(hal6.block g (Nat.lt_of_lt_of_le hg1 hb5.size)).trans (hb5.block g hg1))
    rw[hw8]at hB8 hown8
    replace hw8:=Hd hw8
    clear hb5 hB5 hal6 hbA hownA1
    go_upto_region 11 with fail
    rw[hw8.out]
    have hnw:=news_one w8 (.int .i64 (2)) 3
    have hLn:(L.map (Value.int .i64)).length≤2:=by rw[List.length_map,hL.out,List.length_take];simp<;>omega
    have hownA:(w8.alloc (.cells #[.int .i64 (2)] 3)).ownsRow W.heap.size 3 1 _ (L.map (Value.int .i64)).length (L.map (Value.int .i64)):=hown8.out.alloc _
    replace hnw:=Hd hnw
    replace hownA:=Hd hownA
    replace hLn:=Hd hLn
    clear hown8
    go_wp2_with (at_builtin;refine wpList_append_own _ rfl _ _ 138 rfl W.heap.size 3 i0 (.int .i64 0) 1 8 Tryz.underlying138 hi0.out hy0.out hy1.out hy2.out rfl (by decide) _ _ _ rfl hownA.out _ 1 _ [.int .i64 (2)] rfl rfl hnw.out ?la ?lb ?lc ?ld ?le)
    case la=>simp[Value.oneCell']
    case lb=>have:=hLn.out;simp only[maxLen];omega
    case lc=>have:=hLn.out;omega
    case ld=>rw[World.size_alloc];have:=hB8.out.size;omega
    case le=>
     intro v9 w9 h1 h2 _
     have h3:Hid (w9.ownsRow W.heap.size 3 1 v9 ((L++[2]).map (Value.int .i64)).length ((L++[2]).map (Value.int .i64))):=Hd (by
      have e1:(L++[2]).map (Value.int .i64)=L.map (Value.int .i64)++[.int .i64 (2)]:=by simp
      rw[e1,List.length_append,List.length_map]
      exact h1)
     have hB9:=Hd (Below.grown (hB8.out.alloc hB8.out.size (.cells #[.int .i64 (2)] 3)) h2 (by rw[World.size_alloc];have:=hB8.out.size;omega) (fun g hg=>(hownA.out.lt g hg).1))
     clear h1 h2 hownA hnw hB8
     go_wp2
     go_roundw
     case rel=>exact⟨2,_,_,by decide,by go_num,rfl,Hd rfl,Hd (by rw[hL.out];rfl),h3,hB9⟩
     case measure=>simp[intOf]
  ·have hilt:¬(i:Int)<2:=by omega
   obtain rfl:i=2:=by omega
   obtain rfl:er=3:=her.out
   have hL2:L=[0,2]:=hL.out
   subst hL2
   obtain⟨a9,c9,rfl⟩:=own_formX hown.out
   have hq06:Blk wq w.heap.size _ _:=(hbr.out.block _ hq0.out.lt).trans hq0.out
   have hq16:Blk wq (w.heap.size+1) #[.int .i64 0,.bool false,.int .i64 0,.string ⟨#[]⟩,.string ⟨#[]⟩,.slice none 0 0] 38:=(hbr.out.block _ hq1.out.lt).trans hq1.out
   have x0:=hq06.cell 0 rfl
   have hRA:=own_row hown.out
   rw[List.length_map]at hRA
   have cJ:=xjunc_and wq a9 c9 0 2 hRA
   rw[show and3 0 2=0 by decide]at cJ
   have hB6:=Hd (hal.out.trans (hbr.out.mono hal.out.size))
   rw[List.length_map]
   replace cJ:=Hd cJ
   replace hq16:=Hd hq16
   clear hq06 hRA hown hbr hL her
   go_wp2_with fail
   refine cJ.out.mono ?_
   rintro e w7 ⟨rfl,hb7⟩
   have hq17:Blk w7 (w.heap.size+1) #[.int .i64 0,.bool false,.int .i64 0,.string ⟨#[]⟩,.string ⟨#[]⟩,.slice none 0 0] 38:=(hb7.block _ hq16.out.lt).trans hq16.out
   have hB7:=Hd (hB6.out.trans (hb7.mono hB6.out.size))
   have cB:=xback_any 0 (.inl rfl) w7
   rw[show bkK 0=1 by decide,show bkB 0=false by decide]at cB
   replace cB:=Hd cB
   clear cJ hb7 x0
   go_wp2_with fail
   refine cB.out.mono ?_
   rintro e w8 ⟨rfl,hb8⟩
   unfold agg6
   have hq18:Blk w8 (w.heap.size+1) #[.int .i64 0,.bool false,.int .i64 0,.string ⟨#[]⟩,.string ⟨#[]⟩,.slice none 0 0] 38:=(hb8.block _ hq17.lt).trans hq17
   have hB8:=Hd (hB7.out.trans (hb8.mono hB7.out.size))
   have v0:=hq18.cell 0 rfl
   have v1:=hq18.cell 1 rfl
   have v2:=hq18.cell 2 rfl
   have v3:=hq18.cell 3 rfl
   have v4:=hq18.cell 4 rfl
   have v5:=hq18.cell 5 rfl
   have f1:=hq18.free
   replace hq18:=Hd hq18
   clear cB hb8 hq17 hq16
   go_wp2
   have hfin:=Blk.set6 hq18.out (.int .i64 1) (.bool false) (.int .i64 0) (.string ⟨#[]⟩) (.string ⟨#[]⟩) (.slice none 0 0)
   have hbf:=Below.set6 hB8.out (b:=w.heap.size+1) (Nat.le_succ _) (.int .i64 1) (.bool false) (.int .i64 0) (.string ⟨#[]⟩) (.string ⟨#[]⟩) (.slice none 0 0)
   exact bodyPost_ret (v:=.tuple #[agg6 1 false 0 ⟨#[]⟩ ⟨#[]⟩ (.slice none 0 0),.int .i64 0]) (res2 rfl _ _ (w.heap.size+1) 38 _ (0,0) _ _ rfl rfl hfin.eq Tryz.underlying38 rfl infoV6) rfl ⟨1,false,0,⟨#[]⟩,⟨#[]⟩,none,0,[],rfl,hbf,LF.nil _ _ _,ok_small 1 (by omega) (by omega) false,rfl⟩
end Go.Proofs.YtcaeipdgbaligaaGreatDoor.ex
