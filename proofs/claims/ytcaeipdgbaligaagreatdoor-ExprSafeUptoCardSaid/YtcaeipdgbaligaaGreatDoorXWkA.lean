/- Texts XEvD, XWkA, one behind the other. -/
import Derived.Test.YtcaeipdgbaligaaGreatDoorXEvZ
set_option linter.unusedSimpArgs false
set_option linter.unusedVariables false
set_option maxHeartbeats 8000000
namespace Go.Proofs.YtcaeipdgbaligaaGreatDoor.ex
open Go.ChangeShapes Go.WideShapes Go.ChangeAt Go.RowKit kit dec val tab logic
open hyp (RowA TextsA textsV textsV_length news_one own_row)
set_option maxRecDepth 100000
theorem evDiv(w:World)(hE:Env w)(eb:Nat)(lang:Int)(iv:Value)(hlang:lang=0∨lang=1)(hbe:Blk w eb #[.int .i64 lang,iv] 68)(v:Value)(hv:XV w 1048576 v (twoX 20 (litX (numV1 1)) (litX (numV1 0)))):
 Calls Tryz.prog 22 #[.pointer (some ⟨eb,0,none⟩),v] w (EvE 3 w):=by
 obtain⟨tx,kk,bb,nn,t2,u2,a1,a2,a3,f,aa,ca,ap,plan,cp,am,mt,cm,ag,gp,cg,rfl,hs⟩:=two_parts hv
 unfold c13
 have cS:=fun W (hW:Below w.heap.size w W)=>sing_div tx kk bb nn t2 u2 a1 a2 a3 f aa 2 ca ap plan cp am mt cm ag gp cg W (.pointer (some ⟨eb,0,none⟩))
 have cV:=fun W (hW:Below w.heap.size w W)=>values_gen [litX (numV1 1),litX (numV1 0)] (fun j u=>(j=0→u=numV1 1)∧(j=1→u=numV1 0)) 2 3 (by decide) W eb aa ca (XS.stay hW hs) (fun j hj h2 V u hV hu=>by
  match j,hj with
  |0,_=>
   refine(evLit V eb u 2 false 1 hu).mono ?_
   rintro e w' ⟨k,b,n,t,x,ao,cap,l,rfl,h1,h2,h3,h4⟩
   exact⟨_,_,_,_,_,_,_,_,rfl,h1,h2,h3,fun _=>h4,fun h=>absurd h (by decide)⟩
  |1,_=>
   refine(evLit V eb u 2 false 0 hu).mono ?_
   rintro e w' ⟨k,b,n,t,x,ao,cap,l,rfl,h1,h2,h3,h4⟩
   exact⟨_,_,_,_,_,_,_,_,rfl,h1,h2,h3,fun h=>absurd h (by decide),fun _=>h4⟩) (fun hj=>absurd hj (by decide))
 have hq0:=(Blk.new w #[.int .i64 20,.string tx,.int .i64 kk,.bool bb,.int .i64 nn,.string t2,.string u2,.slice a1 a2 a3,.bool f,.slice aa 2 ca,.slice ap plan cp,.slice am mt cm,.slice ag gp cg] 43).alloc (.cells #[.int .i64 0,.bool false,.int .i64 0,.string ⟨#[]⟩,.string ⟨#[]⟩,.slice none 0 0] 38)
 have hq1:=Blk.new (w.alloc (.cells #[.int .i64 20,.string tx,.int .i64 kk,.bool bb,.int .i64 nn,.string t2,.string u2,.slice a1 a2 a3,.bool f,.slice aa 2 ca,.slice ap plan cp,.slice am mt cm,.slice ag gp cg] 43)) #[.int .i64 0,.bool false,.int .i64 0,.string ⟨#[]⟩,.string ⟨#[]⟩,.slice none 0 0] 38
 rw[World.size_alloc]at hq1
 have hal:Below w.heap.size w ((w.alloc (.cells #[.int .i64 20,.string tx,.int .i64 kk,.bool bb,.int .i64 nn,.string t2,.string u2,.slice a1 a2 a3,.bool f,.slice aa 2 ca,.slice ap plan cp,.slice am mt cm,.slice ag gp cg] 43)).alloc (.cells #[.int .i64 0,.bool false,.int .i64 0,.string ⟨#[]⟩,.string ⟨#[]⟩,.slice none 0 0] 38)):=((Below.refl _ _).alloc (Nat.le_refl _) _).alloc (by rw[World.size_alloc];omega) _
 have cC:=Hd (cS _ hal)
 have t0:=hq0.cell 0 rfl
 have t1:=hq0.cell 1 rfl
 have t2a:=hq0.cell 2 rfl
 have t3:=hq0.cell 3 rfl
 have t4:=hq0.cell 4 rfl
 have t5:=hq0.cell 5 rfl
 have t6:=hq0.cell 6 rfl
 have t7:=hq0.cell 7 rfl
 have t8:=hq0.cell 8 rfl
 have t9:=hq0.cell 9 rfl
 have t10:=hq0.cell 10 rfl
 have t11:=hq0.cell 11 rfl
 have t12:=hq0.cell 12 rfl
 have heb:=hbe.lt
 replace heb:=Hd heb
 replace hq0:=Hd hq0
 replace hq1:=Hd hq1
 replace hal:=Hd hal
 replace hbe:=Hd hbe
 replace hlang:=Hd hlang
 replace cV:=Hd cV
 clear cS hs
 go_enter Tryz.func22,Tryz.ntmps22
 go_wp2_with fail
 refine cC.out.mono ?_
 rintro e w3 ⟨rfl,hb3⟩
 have hal6:Below w3.heap.size w3 (w3.alloc (.cells #[.int .i64 0,.bool false,.int .i64 0,.string ⟨#[]⟩,.string ⟨#[]⟩,.slice none 0 0] 38)):=(Below.refl _ _).alloc (Nat.le_refl _) _
 have hq03:Blk w3 w.heap.size #[.int .i64 20,.string tx,.int .i64 kk,.bool bb,.int .i64 nn,.string t2,.string u2,.slice a1 a2 a3,.bool f,.slice aa 2 ca,.slice ap plan cp,.slice am mt cm,.slice ag gp cg] 43:=(hb3.block _ hq0.out.lt).trans hq0.out
 have hq13:Blk w3 (w.heap.size+1) #[.int .i64 0,.bool false,.int .i64 0,.string ⟨#[]⟩,.string ⟨#[]⟩,.slice none 0 0] 38:=(hb3.block _ hq1.out.lt).trans hq1.out
 have hq04:=hq03.alloc (.cells #[.int .i64 0,.bool false,.int .i64 0,.string ⟨#[]⟩,.string ⟨#[]⟩,.slice none 0 0] 38)
 have hq14:=hq13.alloc (.cells #[.int .i64 0,.bool false,.int .i64 0,.string ⟨#[]⟩,.string ⟨#[]⟩,.slice none 0 0] 38)
 have hB3:=hal.out.trans (hb3.mono hal.out.size)
 have hB4:=hB3.trans (hal6.mono hB3.size)
 have cV4:=Hd (cV.out _ hB4)
 clear t0 t1 t2a t3 t4 t5 t6 t7 t8 t9 t10 t11 t12
 have x9:=hq04.cell 9 rfl
 replace hq04:=Hd hq04
 replace hq14:=Hd hq14
 replace hB4:=Hd hB4
 clear cC cV hb3 hq1 hq0 hB3 hq13 hq03 hal6
 go_wp2_with fail
 refine cV4.out.mono ?_
 rintro e w5 (⟨h,-⟩|⟨-,us,ao,cap,rfl,hul,hb5,hla,hfit⟩)
 ·exact absurd h (by simp)
 have hq05:Blk w5 w.heap.size #[.int .i64 20,.string tx,.int .i64 kk,.bool bb,.int .i64 nn,.string t2,.string u2,.slice a1 a2 a3,.bool f,.slice aa 2 ca,.slice ap plan cp,.slice am mt cm,.slice ag gp cg] 43:=(hb5.block _ hq04.out.lt).trans hq04.out
 have hq15:Blk w5 (w.heap.size+1) #[.int .i64 0,.bool false,.int .i64 0,.string ⟨#[]⟩,.string ⟨#[]⟩,.slice none 0 0] 38:=(hb5.block _ hq14.out.lt).trans hq14.out
 have hB5:=hB4.out.trans (hb5.mono hB4.out.size)
 have hu2:us.length=2:=hul
 obtain⟨bA,oA,k1,b1,n1,s1,s2,l1,e1,e3,rfl,hv1,hrA,hokA,hslA⟩:=la_at hla 0 (by omega)
 obtain⟨bB,oB,k3,b3,n3,s3,s4,l3,d1,d3,hBB,hv2,hrB,hokB,hslB⟩:=la_at hla 1 (by omega)
 cases hBB
 have hf1:=hv1.symm.trans ((hfit 0 (by omega)).1 rfl)
 have hf2:=hv2.symm.trans ((hfit 1 (by omega)).2 rfl)
 unfold numV1 at hf1 hf2
 injection hf1 with g1 g2 g3 g4 g5 g6
 injection hf2 with i1 i2 i3 i4 i5 i6
 subst g1 g2 g3 g4 g5 g6 i1 i2 i3 i4 i5 i6
 rw[Nat.zero_mul,Nat.add_zero]at hrA
 rw[Nat.one_mul]at hrB
 rw[List.length_nil]at hrA hrB hslA hslB
 rw[hu2]
 have hbe5:=hB5.block _ heb.out
 have hbe5:Blk w5 eb #[.int .i64 lang,iv] 68:=hbe5.trans hbe.out
 have hEB:eb<w.heap.size:=heb.out
 have e0:=hbe5.cell 0 rfl
 clear x9 cV4
 have x0:=hq05.cell 0 rfl
 have cC:=Hd (fun W=>xcomp_any W 20)
 rw[decide_eq_false (show ¬(9≤(20:Int)∧(20:Int)≤14) by decide)]at cC
 have hd6:Below w5.heap.size w5 w5.drew:=Below_drewN 1 (Below.refl _ _)
 have hB6:=hB5.trans (hd6.mono hB5.size)
 have hS0:Blk w5.drew w.heap.size #[.int .i64 20,.string tx,.int .i64 kk,.bool bb,.int .i64 nn,.string t2,.string u2,.slice a1 a2 a3,.bool f,.slice aa 2 ca,.slice ap plan cp,.slice am mt cm,.slice ag gp cg] 43∧Row6 w5.drew bA oA 2 false 1 ⟨#[]⟩ ⟨#[]⟩ (.slice e1 0 e3)∧Row6 w5.drew bA (oA+6) 2 false 0 ⟨#[]⟩ ⟨#[]⟩ (.slice d1 0 d3)∧Blk w5.drew eb #[.int .i64 lang,iv] 68:=⟨hq05,hrA.below hd6,hrB.below hd6,hbe5⟩
 have hq16:Blk w5.drew (w.heap.size+1) #[.int .i64 0,.bool false,.int .i64 0,.string ⟨#[]⟩,.string ⟨#[]⟩,.slice none 0 0] 38:=hq15
 have cH:=xarith0 w5.drew (hE.below hB6) lang hlang.out e1 d1 e3 d3 (hslA.stay hd6) (hslB.stay hd6)
 replace cH:=Hd cH
 replace hB6:=Hd hB6
 replace hq16:=Hd hq16
 clear hq05 hq15 hB5 hrA hrB hslA hslB hokA hokB hla hfit hd6 hul hu2 hq04 hq14 hB4 hb5 hv1 hv2 hbe5 hbe
 go_wp2_with fail
 refine(cC.out _).mono ?_
 rintro e w6 ⟨rfl,rfl⟩
 clear cC
 go_upto_region 28 with fail
 clear x0 e0
 refine wp_region_held_drew (S:=fun V=>Blk V w.heap.size #[.int .i64 20,.string tx,.int .i64 kk,.bool bb,.int .i64 nn,.string t2,.string u2,.slice a1 a2 a3,.bool f,.slice aa 2 ca,.slice ap plan cp,.slice am mt cm,.slice ag gp cg] 43∧Row6 V bA oA 2 false 1 ⟨#[]⟩ ⟨#[]⟩ (.slice e1 0 e3)∧Row6 V bA (oA+6) 2 false 0 ⟨#[]⟩ ⟨#[]⟩ (.slice d1 0 d3)∧Blk V eb #[.int .i64 lang,iv] 68) (by kernel_rfl) hS0 (fun hS=>?_)
 generalize w6.drew=V0 at *
 refine tkS [0,1,2,3,4,5,6,7,8,9,10,11] ?_
 iterate 12
  refine tkC ?_ rfl (fun w' hS=>?_) hS ?_
  rotate_left
  ·
   have y0:=hS.1.cell 0 rfl;obtain⟨p0,p1,p2,p3,p4,p5⟩:=hS.2.1.six;obtain⟨r0,r1,r2,r3,r4,r5⟩:=hS.2.2.1.six;have e0:=hS.2.2.2.cell 0 rfl
   go_simp
   try with_reducible rfl
 refine rdH 12 rfl (fun K hK=>?_)
 clear hS
 go_simp
 refine(cH.out).mono ?_
 rintro e w7 ⟨rfl,hb7⟩
 go_wp2_with fail
 refine hKo hK (⟨(hb7.block _ hS0.1.lt).trans hS0.1,hS0.2.1.below hb7,hS0.2.2.1.below hb7,(hb7.block _ hS0.2.2.2.lt).trans hS0.2.2.2⟩) (fun hS=>?_)
 clear hK K
 have hB8:=hB6.out.trans (hb7.mono hB6.out.size)
 have hS8:Blk w7 w.heap.size #[.int .i64 20,.string tx,.int .i64 kk,.bool bb,.int .i64 nn,.string t2,.string u2,.slice a1 a2 a3,.bool f,.slice aa 2 ca,.slice ap plan cp,.slice am mt cm,.slice ag gp cg] 43∧Row6 w7 bA oA 2 false 1 ⟨#[]⟩ ⟨#[]⟩ (.slice e1 0 e3)∧Row6 w7 bA (oA+6) 2 false 0 ⟨#[]⟩ ⟨#[]⟩ (.slice d1 0 d3)∧Blk w7 eb #[.int .i64 lang,iv] 68:=⟨(hb7.block _ hS0.1.lt).trans hS0.1,hS0.2.1.below hb7,hS0.2.2.1.below hb7,(hb7.block _ hS0.2.2.2.lt).trans hS0.2.2.2⟩
 have hq18:Blk w7 (w.heap.size+1) #[.int .i64 0,.bool false,.int .i64 0,.string ⟨#[]⟩,.string ⟨#[]⟩,.slice none 0 0] 38:=(hb7.block _ hq16.out.lt).trans hq16.out
 clear hb7 hS0 hq16 hB6 cH
 refine tkS [13,14] ?_
 iterate 2
  refine tkC ?_ rfl (fun w' hS=>?_) hS ?_
  rotate_left
  ·
   skip
   go_simp
   try with_reducible rfl
 have hne:bA≠w.heap.size+1:=fun h=>by
  have h1:=hS8.2.2.1.c0
  rw[h,cell_of_row _ _ _ _ _ _ hq18]at h1
  have h2:=(Array.getElem?_eq_some_iff.1 h1).1
  simp at h2
  omega
 refine rdH 15 rfl (fun K hK=>?_)
 clear hS
 have hq4:=Hd (hq18.setRow (cs':=#[.int .i64 0,.bool false,.int .i64 0,.string ⟨#[]⟩,.string ⟨#[]⟩,.slice none 0 0]))
 have hS9:Blk (w7.setRow (w.heap.size+1) #[.int .i64 0,.bool false,.int .i64 0,.string ⟨#[]⟩,.string ⟨#[]⟩,.slice none 0 0]) w.heap.size #[.int .i64 20,.string tx,.int .i64 kk,.bool bb,.int .i64 nn,.string t2,.string u2,.slice a1 a2 a3,.bool f,.slice aa 2 ca,.slice ap plan cp,.slice am mt cm,.slice ag gp cg] 43∧Row6 (w7.setRow (w.heap.size+1) #[.int .i64 0,.bool false,.int .i64 0,.string ⟨#[]⟩,.string ⟨#[]⟩,.slice none 0 0]) bA oA 2 false 1 ⟨#[]⟩ ⟨#[]⟩ (.slice e1 0 e3)∧Row6 (w7.setRow (w.heap.size+1) #[.int .i64 0,.bool false,.int .i64 0,.string ⟨#[]⟩,.string ⟨#[]⟩,.slice none 0 0]) bA (oA+6) 2 false 0 ⟨#[]⟩ ⟨#[]⟩ (.slice d1 0 d3)∧Blk (w7.setRow (w.heap.size+1) #[.int .i64 0,.bool false,.int .i64 0,.string ⟨#[]⟩,.string ⟨#[]⟩,.slice none 0 0]) eb #[.int .i64 lang,iv] 68:=
  ⟨hS8.1.setRow_other (by omega),row6_heap hS8.2.1 (_root_.Go.setRow_other w7 _ bA _ hne),row6_heap hS8.2.2.1 (_root_.Go.setRow_other w7 _ bA _ hne),hS8.2.2.2.setRow_other (by omega)⟩
 have hB4:=Hd (setRow_under hB8 (g:=w.heap.size+1) (by omega) #[.int .i64 0,.bool false,.int .i64 0,.string ⟨#[]⟩,.string ⟨#[]⟩,.slice none 0 0])
 rw[if_pos (by kernel_rfl)]
 refine wp_store_row 38 (.tmp 4) (.tmp 182) rfl (w.heap.size+1) #[.int .i64 0,.bool false,.int .i64 0,.string ⟨#[]⟩,.string ⟨#[]⟩,.slice none 0 0] rfl rfl 38 #[.int .i64 0,.bool false,.int .i64 0,.string ⟨#[]⟩,.string ⟨#[]⟩,.slice none 0 0] hq18.eq infoV6 rfl (by simp[Value.oneCell']) ?_
 refine hKo hK hS9 (fun hS=>?_)
 clear hK K hq18 hB8 hS8
 refine tkH 16 ?_ rfl (fun w' hS=>?_) hS ?_
 rotate_left
 ·
  skip
  go_simp
  try with_reducible rfl
 refine wpAnyH_done (by kernel_rfl) ?_ _
 clear hS
 generalize w7.setRow (w.heap.size+1) #[.int .i64 0,.bool false,.int .i64 0,.string ⟨#[]⟩,.string ⟨#[]⟩,.slice none 0 0]=w9 at *
 go_wp2
 exact bodyPost_ret (v:=.tuple #[.agg #[.int .i64 0,.bool false,.int .i64 0,.string ⟨#[]⟩,.string ⟨#[]⟩,.slice none 0 0],.int .i64 3]) (res2 rfl _ _ (w.heap.size+1) 38 _ (0,0) _ _ rfl rfl hq4.out.eq Tryz.underlying38 rfl infoV6) rfl ⟨0,false,0,⟨#[]⟩,⟨#[]⟩,none,0,0,rfl,hB4.out⟩
end Go.Proofs.YtcaeipdgbaligaaGreatDoor.ex
set_option linter.unusedSimpArgs false
set_option linter.unusedVariables false
set_option maxHeartbeats 4000000
namespace Go.Proofs.YtcaeipdgbaligaaGreatDoor.ex
open Go.ChangeShapes Go.WideShapes Go.ChangeAt Go.RowKit kit dec val tab logic
open hyp (RowA TextsA textsV textsV_length news_one own_row)
set_option maxRecDepth 100000
theorem xof_s(w:World)(hE:Env w)(b:Bool)(ao:Option Addr)(cap:Nat)(ha:LA w 1048576 (.slice ao 0 cap) []):
 Calls Tryz.prog 81 #[.int .i64 1,.agg #[.int .i64 1,.bool b,.int .i64 0,.string ⟨#[]⟩,.string ⟨#[]⟩,.slice ao 0 cap]] w fun e w'=>e=.returned (.tuple #[.int .i64 (tvB b),.int .i64 0])∧Below w.heap.size w w':=by
 have hq:=Blk.new w #[.int .i64 1,.bool b,.int .i64 0,.string ⟨#[]⟩,.string ⟨#[]⟩,.slice ao 0 cap] 38
 have hal:Below w.heap.size w (w.alloc (.cells #[.int .i64 1,.bool b,.int .i64 0,.string ⟨#[]⟩,.string ⟨#[]⟩,.slice ao 0 cap] 38)):=(Below.refl _ _).alloc (Nat.le_refl _) _
 have cV:=check_any 1048576 (by omega) _ (hE.below hal) 1 b 0 ⟨#[]⟩ ⟨#[]⟩ _ [] (ha.stay hal) zero_le_N zero_le_N
 rw[bool_may]at cV
 unfold agg6 at cV
 have y0:=hq.cell 0 rfl
 have y1:=hq.cell 1 rfl
 have y2:=hq.cell 2 rfl
 have y3:=hq.cell 3 rfl
 have y4:=hq.cell 4 rfl
 have y5:=hq.cell 5 rfl
 replace hq:=Hd hq
 replace hal:=Hd hal
 replace cV:=Hd cV
 replace ha:=Hd ha
 go_enter Tryz.func81,Tryz.ntmps81
 go_wp2_with fail
 refine cV.out.mono ?_
 rintro e w2 ⟨rfl,hb2⟩
 have hq2:Blk w2 w.heap.size _ _:=(hb2.block _ hq.out.lt).trans hq.out
 clear y0 y1 y2 y3 y4 y5
 have y0:=hq2.cell 0 rfl
 have y1:=hq2.cell 1 rfl
 have hB:=Hd (hal.out.trans (hb2.mono hal.out.size))
 have cT:=Hd (xtruth_b w2 b)
 clear hq hq2 hal hb2 cV
 go_wp2_with fail
 refine cT.out.mono ?_
 rintro e w3 ⟨rfl,rfl⟩
 clear cT
 go_wp2
 go_ret2
 exact⟨rfl,hB.out⟩
theorem xjunc_and(w:World)(ao:Option Addr)(cap:Nat)(r0 r1:Int)(hR:RowA w w.heap.size (.slice ao [r0,r1].length cap) ([r0,r1].map (.int .i64))):
 Calls Tryz.prog 82 #[.int .i64 6,.slice ao [r0,r1].length cap] w fun e w'=>e=.returned (.int .i64 (and3 r0 r1))∧Below w.heap.size w w':=by
 have hcells:∀j (hj:j<[r0,r1].length),∃b off,ao=some ⟨b,off,none⟩∧w.cell? ⟨b,off+j,none⟩=some (.int .i64 [r0,r1][j]):=by
  intro j hj
  have hlen:([r0,r1].map (Value.int .i64)).length=[r0,r1].length:=by simp
  rcases hR with⟨a2,c2,hv,hl⟩|⟨b,off,c2,hv,h0,hc,hB,hcell⟩
  ·rw[hl]at hlen
   simp at hlen
  ·injection hv with e1 e2 e3
   refine⟨b,off,e1,?_⟩
   rw[hcell j (by omega)]
   have hj2:j<2:=hj
   obtain rfl|rfl:j=0∨j=1:=by omega
   ·rfl
   ·rfl
 obtain⟨b,off,rfl,z0⟩:=hcells 0 (by simp)
 obtain⟨b',off',e,z1⟩:=hcells 1 (by simp)
 cases e
 replace z0:w.cell? ⟨b,off,none⟩=some (.int .i64 r0):=z0
 replace z1:w.cell? ⟨b,off+1,none⟩=some (.int .i64 r1):=z1
 clear hcells hR
 show Calls Tryz.prog 82 #[.int .i64 6,.slice (some ⟨b,off,none⟩) 2 cap] w _
 go_enter Tryz.func82,Tryz.ntmps82
 go_upto_region 5 with fail
 have hS0:w.drew.cell? ⟨b,off,none⟩=some (.int .i64 r0)∧w.drew.cell? ⟨b,off+1,none⟩=some (.int .i64 r1):=⟨z0,z1⟩
 refine wp_region_held_drew (S:=fun V=>V.cell? ⟨b,off,none⟩=some (.int .i64 r0)∧V.cell? ⟨b,off+1,none⟩=some (.int .i64 r1)) (by kernel_rfl) hS0 (fun hS=>?_)
 have hd:Below w.heap.size w w.drew:=below_drewN (Below.refl _ _) 1
 generalize w.drew=V0 at *
 clear z0 z1
 refine tkS [0,1,2,3,4,5] ?_
 iterate 6
  refine tkC ?_ rfl (fun w' hS=>?_) hS ?_
  rotate_left
  ·
   have y0:=hS.1;have y1:=hS.2
   go_simp
   try with_reducible rfl
 refine rdH 6 rfl (fun K hK=>?_)
 clear hS
 go_simp
 refine(and_any r0 r1 V0).mono ?_
 rintro e w2 ⟨rfl,n,rfl⟩
 go_wp2_with fail
 refine hKo hK (⟨hS0.1,hS0.2⟩) (fun hS=>?_)
 clear hK K
 refine tkH 7 ?_ rfl (fun w' hS=>?_) hS ?_
 rotate_left
 ·
  skip
  go_simp
  try with_reducible rfl
 refine wpAnyH_done (by kernel_rfl) ?_ _
 clear hS
 go_wp2
 go_ret
 exact⟨rfl,Below_drewN n hd⟩
theorem logical_err(tx:ByteArray)(kk:Int)(bb:Bool)(nn:Int)(t2 u2:ByteArray)(a1:Option Addr)(a2 a3:Nat)(f:Bool)(aa:Option Addr)(argn ca:Nat)(ap:Option Addr)(plan cp:Nat)(am:Option Addr)(mt cm:Nat)(ag:Option Addr)(gp cg:Nat)(w:World)(eb:Nat)(iv:Value)(hbe:Blk w eb #[.int .i64 0,iv] 68)(er:Int)(her:er≠0)(cV:∀W,Below w.heap.size w W→Calls Tryz.prog 37 #[.pointer (some ⟨eb,0,none⟩),.slice aa argn ca] W fun e w'=>e=.returned (.tuple #[.slice none 0 0,.int .i64 er])∧Below W.heap.size W w'):
 Calls Tryz.prog 56 #[.pointer (some ⟨eb,0,none⟩),.agg #[.int .i64 6,.string tx,.int .i64 kk,.bool bb,.int .i64 nn,.string t2,.string u2,.slice a1 a2 a3,.bool f,.slice aa argn ca,.slice ap plan cp,.slice am mt cm,.slice ag gp cg]] w (EvE er w):=by
 have hq0:=(Blk.new w #[.int .i64 6,.string tx,.int .i64 kk,.bool bb,.int .i64 nn,.string t2,.string u2,.slice a1 a2 a3,.bool f,.slice aa argn ca,.slice ap plan cp,.slice am mt cm,.slice ag gp cg] 43).alloc (.cells #[.int .i64 0,.bool false,.int .i64 0,.string ⟨#[]⟩,.string ⟨#[]⟩,.slice none 0 0] 38)
 have hq1:=Blk.new (w.alloc (.cells #[.int .i64 6,.string tx,.int .i64 kk,.bool bb,.int .i64 nn,.string t2,.string u2,.slice a1 a2 a3,.bool f,.slice aa argn ca,.slice ap plan cp,.slice am mt cm,.slice ag gp cg] 43)) #[.int .i64 0,.bool false,.int .i64 0,.string ⟨#[]⟩,.string ⟨#[]⟩,.slice none 0 0] 38
 rw[World.size_alloc]at hq1
 have hal:Below w.heap.size w ((w.alloc (.cells #[.int .i64 6,.string tx,.int .i64 kk,.bool bb,.int .i64 nn,.string t2,.string u2,.slice a1 a2 a3,.bool f,.slice aa argn ca,.slice ap plan cp,.slice am mt cm,.slice ag gp cg] 43)).alloc (.cells #[.int .i64 0,.bool false,.int .i64 0,.string ⟨#[]⟩,.string ⟨#[]⟩,.slice none 0 0] 38)):=((Below.refl _ _).alloc (Nat.le_refl _) _).alloc (by rw[World.size_alloc];omega) _
 have hcall:=Hd (cV _ hal)
 have hern:(er==0)=false:=beq_eq_false_iff_ne.2 her
 have x9:=hq0.cell 9 rfl
 have hbe2:Blk ((w.alloc (.cells #[.int .i64 6,.string tx,.int .i64 kk,.bool bb,.int .i64 nn,.string t2,.string u2,.slice a1 a2 a3,.bool f,.slice aa argn ca,.slice ap plan cp,.slice am mt cm,.slice ag gp cg] 43)).alloc (.cells #[.int .i64 0,.bool false,.int .i64 0,.string ⟨#[]⟩,.string ⟨#[]⟩,.slice none 0 0] 38)) eb #[.int .i64 0,iv] 68:=(hal.block _ hbe.lt).trans hbe
 have z0:=hbe2.cell 0 rfl
 replace hq1:=Hd hq1
 replace hal:=Hd hal
 clear cV hq0 hbe2 hbe
 go_enter Tryz.func56,Tryz.ntmps56
 go_wp2_with fail
 refine hcall.out.mono ?_
 rintro e w5 ⟨rfl,hb5⟩
 have hq15:Blk w5 (w.heap.size+1) #[.int .i64 0,.bool false,.int .i64 0,.string ⟨#[]⟩,.string ⟨#[]⟩,.slice none 0 0] 38:=(hb5.block _ hq1.out.lt).trans hq1.out
 have hB5:=Hd (hal.out.trans (hb5.mono hal.out.size))
 clear x9 hcall hb5 z0 hq1 hal
 have v0:=hq15.cell 0 rfl
 have v1:=hq15.cell 1 rfl
 have v2:=hq15.cell 2 rfl
 have v3:=hq15.cell 3 rfl
 have v4:=hq15.cell 4 rfl
 have v5:=hq15.cell 5 rfl
 have f1:=hq15.free
 replace hq15:=Hd hq15
 go_wp2
 have hfin:=Blk.set6 hq15.out (.int .i64 0) (.bool false) (.int .i64 0) (.string ⟨#[]⟩) (.string ⟨#[]⟩) (.slice none 0 0)
 have hbf:=Below.set6 hB5.out (b:=w.heap.size+1) (Nat.le_succ _) (.int .i64 0) (.bool false) (.int .i64 0) (.string ⟨#[]⟩) (.string ⟨#[]⟩) (.slice none 0 0)
 exact bodyPost_ret (v:=.tuple #[.agg #[.int .i64 0,.bool false,.int .i64 0,.string ⟨#[]⟩,.string ⟨#[]⟩,.slice none 0 0],.int .i64 er]) (res2 rfl _ _ (w.heap.size+1) 38 _ (0,0) _ _ rfl rfl hfin.eq Tryz.underlying38 rfl infoV6) rfl ⟨0,false,0,⟨#[]⟩,⟨#[]⟩,none,0,0,rfl,hbf⟩
end Go.Proofs.YtcaeipdgbaligaaGreatDoor.ex
