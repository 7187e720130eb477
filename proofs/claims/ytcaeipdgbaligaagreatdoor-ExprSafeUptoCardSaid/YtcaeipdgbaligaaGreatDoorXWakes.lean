/- The law's wakes: always true. -/
import Derived.Test.YtcaeipdgbaligaaGreatDoorXVars
set_option linter.unusedSimpArgs false
set_option linter.unusedVariables false
set_option maxHeartbeats 8000000
namespace Go.Proofs.YtcaeipdgbaligaaGreatDoor.ex
open Go.ChangeShapes Go.WideShapes Go.ChangeAt Go.RowKit kit dec val tab logic
open hyp (RowA TextsA textsV textsV_length news_one own_row CellsStay)
set_option maxRecDepth 100000
theorem blkB{w w':World}{b:Nat}{cs:Array Value}{t:TypeId}(hb:Below w.heap.size w w')(h:Blk w b cs t):Blk w' b cs t:=(hb.block _ h.lt).trans h
theorem alloc_x(u:World)(cs:Array Value)(t:TypeId):∃ua pg,u.alloc (.cells cs t)=ua∧u.heap.size=pg∧Below u.heap.size u ua∧Blk ua pg cs t:=⟨_,_,rfl,rfl,(Below.refl _ _).alloc (Nat.le_refl _) _,Blk.new _ _ _⟩
theorem xv13{w:World}{N:Nat}{v:Value}{x:X}(h:XV w N v x):∃o1 s1 k2 b1 n1 s2 s3 e1 e2 e3 f1 e4 e5 e6 e7 e8 e9 d1 d2 d3 d4 d5 d6,v=.agg #[.int .i64 o1,.string s1,.int .i64 k2,.bool b1,.int .i64 n1,.string s2,.string s3,.slice e1 e2 e3,.bool f1,.slice e4 e5 e6,.slice e7 e8 e9,.slice d1 d2 d3,.slice d4 d5 d6]:=by
 obtain⟨cs,rfl⟩:∃cs,v=.agg cs:=by cases h;exact⟨_,rfl⟩
 obtain⟨o1,s1,k2,b1,n1,s2,s3,e1,e2,e3,f1,e4,e5,e6,e7,e8,e9,d1,d2,d3,d4,d5,d6,rfl⟩:=h.form
 exact⟨o1,s1,k2,b1,n1,s2,s3,e1,e2,e3,f1,e4,e5,e6,e7,e8,e9,d1,d2,d3,d4,d5,d6,rfl⟩
theorem lit_keep{w w':World}{k n:Int}{b:Bool}{v:Value}(hv:XV w 1048576 v (litX (.mk k b n ⟨#[]⟩ ⟨#[]⟩ []))):XV w' 1048576 v (litX (.mk k b n ⟨#[]⟩ ⟨#[]⟩ [])):=by
 unfold litX at hv ⊢
 generalize hx:X.mk 1 ⟨#[]⟩ (.mk k b n ⟨#[]⟩ ⟨#[]⟩ []) false [] [] 0 0=x at hv
 cases hv with
 |mk op t kk bb nn t2 u2 sv l f aa ca args ap cp plan am mt cm ag gp cg i0 i1 ik i_n i2 i3 hl ha hp hmt hgp=>
  injection hx with e1 e2 e3 e4 e5 e6 e7 e8
  injection e3 with f1 f2 f3 f4 f5 f6
  subst e1 e2 e4 e5 e6 e7 e8 f1 f2 f3 f4 f5 f6
  obtain⟨a1,a3,rfl⟩:=hl.form6
  exact .mk _ _ _ _ _ _ _ _ _ _ _ _ _ _ _ _ _ _ _ _ _ _ i0 i1 ik i_n i2 i3 (.mk a1 a3 [] (Nat.zero_le _) (fun j hj=>by simp at hj)) (.mk aa ca [] (Nat.zero_le _) (fun j hj=>by simp at hj)) (.mk ap cp [] (Nat.zero_le _) (fun j hj=>by simp at hj)) hmt hgp
theorem two_keep{w w':World}{v:Value}{op:Int}{xa xb:X}{pg:Nat}{cs:Array Value}{t:TypeId}(hq:Blk w pg cs t)(hc:cs.size=13)(hh:∀b,b≠pg→w'.heap[b]? = w.heap[b]?)
 (hA:∀u,XV w 1048576 u xa→XV w' 1048576 u xa)(hB:∀u,XV w 1048576 u xb→XV w' 1048576 u xb)(hv:XV w 1048576 v (twoX op xa xb)):XV w' 1048576 v (twoX op xa xb):=by
 unfold twoX nulV at hv ⊢
 generalize hx:X.mk op ⟨#[]⟩ (.mk 0 false 0 ByteArray.empty ByteArray.empty []) false [xa,xb] [] 0 0=x at hv
 cases hv with
 | mk op2 t2 kk bb nn t3 u2 sv l f aa ca args ap cp plan am mt cm ag gp cg i0 i1 ik i_n i2 i3 hl ha hp hmt hgp =>
  injection hx with e1 e2 e3 e4 e5 e6 e7 e8
  injection e3 with f1 f2 f3 f4 f5 f6
  subst e1 e2 e4 e5 e6 e7 e8 f1 f2 f3 f4 f5 f6
  obtain⟨a1,a3,rfl⟩:=hl.form6
  obtain⟨bA,oA,csA,rfl,hr0,hx0⟩:=xs_at ha 0 (by simp)
  obtain⟨bB,oB,csB,hBB,hr1,hx1⟩:=xs_at ha 1 (by simp)
  cases hBB
  have hne:bA≠pg:=by
   rintro rfl
   obtain⟨o1,s1,k2,b1,n1,s2,s3,e1,e2,e3,f1,e4,e5,e6,e7,e8,e9,d1,d2,d3,d4,d5,d6,rfl⟩:=hx1.form
   have h1:=hr1.all.2.2.2.2.2.2.2.2.2.2.2.2
   rw[cell_of_row _ _ _ _ _ _ hq]at h1
   have h2:=(Array.getElem?_eq_some_iff.1 h1).1
   omega
  have hlt:bA<w'.heap.size:=by
   have h1:=(hh bA hne).trans (Array.getElem?_eq_getElem hr0.1)
   exact(Array.getElem?_eq_some_iff.1 h1).1
  have hs:XS w' 1048576 (.slice (some ⟨bA,oA,none⟩) [xa,xb].length ca) [xa,xb]:=.mk _ ca [xa,xb] (by simp) (fun j hj=>by
   rcases(by simp at hj;omega:j=0∨j=1) with rfl|rfl
   ·refine xc_mk (cs:=csA) ⟨hlt,fun i hi=>?_⟩ (hA _ hx0)
    have h1:=(hyp.cell_heap (hh bA hne)).trans (hr0.2 i hi)
    simp only[Nat.zero_mul,Nat.add_zero]at h1
    simp only[Nat.mul_zero,Nat.add_zero]
    exact h1
   ·refine xc_mk (cs:=csB) ⟨hlt,fun i hi=>?_⟩ (hB _ hx1)
    have h1:=(hyp.cell_heap (hh bA hne)).trans (hr1.2 i hi)
    simp only[Nat.one_mul]at h1
    simp only[Nat.mul_one]
    exact h1)
  exact .mk _ _ _ _ _ _ _ _ _ _ _ _ _ _ _ _ _ _ _ _ _ _ i0 i1 ik i_n i2 i3 (.mk a1 a3 [] (Nat.zero_le _) (fun j hj=>by simp at hj)) hs (.mk ap cp [] (Nat.zero_le _) (fun j hj=>by simp at hj)) hmt hgp
theorem wake_keep{w w':World}{v:Value}{pg:Nat}{cs:Array Value}{t:TypeId}(hq:Blk w pg cs t)(hc:cs.size=13)(hh:∀b,b≠pg→w'.heap[b]? = w.heap[b]?)(hv:XV w 1048576 v wakeX):XV w' 1048576 v wakeX:=
 two_keep hq hc hh (fun u h=>lit_keep h) (fun u h=>two_keep hq hc hh (fun u h=>two_keep hq hc hh (fun u h=>lit_keep h) (fun u h=>lit_keep h) h) (fun u h=>lit_keep h) h) hv
theorem qX_xv(w:World):XV w 1048576 (.agg #[.int .i64 2,.string ⟨#[113]⟩,.int .i64 0,.bool false,.int .i64 0,.string ⟨#[]⟩,.string ⟨#[]⟩,.slice none 0 0,.bool false,.slice none 0 0,.slice none 0 0,.slice none 0 0,.slice none 0 0]) (X.mk 2 ⟨#[113]⟩ nulV false [] [] 0 0):=
 .mk 2 ⟨#[113]⟩ 0 false 0 ⟨#[]⟩ ⟨#[]⟩ (.slice none 0 0) [] false none 0 [] none 0 [] none 0 0 none 0 0 ⟨by omega,by omega⟩ (by show 1≤1048576;omega) ⟨by omega,by omega⟩ ⟨by omega,by omega⟩ zero_le_N zero_le_N (la_nil _ _) (xs_nil _ _) (ps_nil _ _) (Nat.zero_le _) (Nat.zero_le _)
theorem rowA_up{w w':World}(hb:Below w.heap.size w w'){v:Value}{L:List Value}(h:RowA w w.heap.size v L):RowA w' w'.heap.size v L:=by
 rcases h with h|⟨b,off,cap,rfl,h0,hc,hB,hcell⟩
 ·exact .inl h
 ·exact .inr ⟨b,off,cap,rfl,h0,hc,Nat.lt_of_lt_of_le hB hb.size,fun j hj=>(hyp.cell_heap (hb.block b hB)).trans (hcell j hj)⟩
theorem rowA_new(w:World)(v:Value)(t:TypeId):RowA (w.alloc (.cells #[v] t)) (w.alloc (.cells #[v] t)).heap.size (.slice (some ⟨w.heap.size,0,none⟩) 1 1) [v]:=
 .inr ⟨w.heap.size,0,1,rfl,by simp,by simp,by rw[World.size_alloc];omega,fun j hj=>by
  obtain rfl:j=0:=by simp at hj;omega
  exact(Blk.new w #[v] t).cell 0 rfl⟩
structure WakeM(w wx:World)(p:Nat)(cs:Array Value):Prop where
 below:Below w.heap.size w wx
 blk:Blk wx p cs 43
 xv:XV wx 1048576 (.agg cs) wakeX
theorem xwakes_any(w:World)(hE:EnvD w):Calls Tryz.prog 5 #[] w fun e w'=>e=.returned (.bool true)∧Below w.heap.size w w':=by
 have c1:=Hd (xnum_any w 1 ⟨by decide,by decide⟩)
 replace hE:=Hd hE
 go_enter Tryz.func5,Tryz.ntmps5
 go_wp2_with fail
 refine c1.out.mono ?_
 rintro e w1 ⟨v1,rfl,hb1,hx1⟩
 have c2:=Hd (xnum_any w1 0 ⟨by decide,by decide⟩)
 replace hb1:=Hd hb1
 replace hx1:=Hd hx1
 clear c1
 go_wp2_with fail
 refine c2.out.mono ?_
 rintro e w2 ⟨v2,rfl,hb2,hx2⟩
 have c3:=Hd (xtwo_any w2 20 ⟨by decide,by decide⟩ v1 v2 _ _ (hx1.out.stay hb2) hx2)
 have hB2:=Hd (hb1.out.trans (hb2.mono hb1.out.size))
 clear c2 hb1 hb2 hx1 hx2
 go_wp2_with fail
 refine c3.out.mono ?_
 rintro e w3 ⟨v3,rfl,hb3,hx3⟩
 have c4:=Hd (xnum_any w3 1 ⟨by decide,by decide⟩)
 have hB3:=Hd (hB2.out.trans (hb3.mono hB2.out.size))
 replace hx3:=Hd hx3
 clear c3 hb3 hB2
 go_wp2_with fail
 refine c4.out.mono ?_
 rintro e w4 ⟨v4,rfl,hb4,hx4⟩
 have c5:=Hd (xtwo_any w4 9 ⟨by decide,by decide⟩ v3 v4 _ _ (hx3.out.stay hb4) hx4)
 have hB4:=Hd (hB3.out.trans (hb4.mono hB3.out.size))
 clear c4 hb4 hB3 hx3 hx4
 go_wp2_with fail
 refine c5.out.mono ?_
 rintro e w5 ⟨v5,rfl,hb5,hx5⟩
 have hB5:=hB4.out.trans (hb5.mono hB4.out.size)
 obtain⟨o1,s1,k2,b1,n1,s2,s3,e1,e2,e3,f1,e4,e5,e6,e7,e8,e9,d1,d2,d3,d4,d5,d6,rfl⟩:=xv13 hx5
 have hal5:Below w5.heap.size w5 (w5.alloc (.cells #[.int .i64 o1,.string s1,.int .i64 k2,.bool b1,.int .i64 n1,.string s2,.string s3,.slice e1 e2 e3,.bool f1,.slice e4 e5 e6,.slice e7 e8 e9,.slice d1 d2 d3,.slice d4 d5 d6] 43)):=(Below.refl _ _).alloc (Nat.le_refl _) _
 have hq6:=Blk.new w5 #[.int .i64 o1,.string s1,.int .i64 k2,.bool b1,.int .i64 n1,.string s2,.string s3,.slice e1 e2 e3,.bool f1,.slice e4 e5 e6,.slice e7 e8 e9,.slice d1 d2 d3,.slice d4 d5 d6] 43
 have hB6:=hB5.trans (hal5.mono hB5.size)
 have hbad6:=hx5.stay hal5
 clear c5 hb5 hB4 hB5 hx5 hal5
 replace hq6:=Hd hq6
 replace hB6:=Hd hB6
 replace hbad6:=Hd hbad6
 go_upto_region 2 with fail
 generalize w5.alloc (.cells #[.int .i64 o1,.string s1,.int .i64 k2,.bool b1,.int .i64 n1,.string s2,.string s3,.slice e1 e2 e3,.bool f1,.slice e4 e5 e6,.slice e7 e8 e9,.slice d1 d2 d3,.slice d4 d5 d6] 43)=w6 at *
 go_cut [2] (fun v wx=>∃pg p1 q1 l2 c1 m1 q2 q3 g1 g2 g3 h1 g4 g5 g6 g7 g8 g9 j1 j2 j3 j4 j5 j6,v=.pointer (some ⟨pg,0,none⟩)∧Hid (WakeM w wx pg #[.int .i64 p1,.string q1,.int .i64 l2,.bool c1,.int .i64 m1,.string q2,.string q3,.slice g1 g2 g3,.bool h1,.slice g4 g5 g6,.slice g7 g8 g9,.slice j1 j2 j3,.slice j4 j5 j6]))
 case first=>
  have hd:Below w6.heap.size w6 w6.drew:=Below_drewN 1 (Below.refl _ _)
  have hB:=hB6.out.trans (hd.mono hB6.out.size)
  have hbad:=hbad6.out.stay hd
  have hS0:Blk w6.drew w5.heap.size #[.int .i64 o1,.string s1,.int .i64 k2,.bool b1,.int .i64 n1,.string s2,.string s3,.slice e1 e2 e3,.bool f1,.slice e4 e5 e6,.slice e7 e8 e9,.slice d1 d2 d3,.slice d4 d5 d6] 43:=hq6.out
  clear hd hB6 hbad6 hq6
  refine wp_region_held_drew (S:=fun V=>Blk V w5.heap.size #[.int .i64 o1,.string s1,.int .i64 k2,.bool b1,.int .i64 n1,.string s2,.string s3,.slice e1 e2 e3,.bool f1,.slice e4 e5 e6,.slice e7 e8 e9,.slice d1 d2 d3,.slice d4 d5 d6] 43) (by kernel_rfl) hS0 (fun hS=>?_)
  generalize w6.drew=u at *
  refine tkH 1 ?_ rfl (fun w' hS=>?_) hS ?_
  rotate_left
  ·
   have t0:=hS.cell 0 rfl
   have t1:=hS.cell 1 rfl
   have t2a:=hS.cell 2 rfl
   have t3:=hS.cell 3 rfl
   have t4:=hS.cell 4 rfl
   have t5:=hS.cell 5 rfl
   have t6:=hS.cell 6 rfl
   have t7:=hS.cell 7 rfl
   have t8:=hS.cell 8 rfl
   have t9:=hS.cell 9 rfl
   have t10:=hS.cell 10 rfl
   have t11:=hS.cell 11 rfl
   have t12:=hS.cell 12 rfl
   go_simp
   try with_reducible rfl
  refine wpAnyH_ready (rs:=[0,3]) (by kernel_rfl) (by simp) ?_
  refine AllReadyH.cons rfl (fun K hK=>?nd) (AllReadyH.cons rfl (fun K hK=>?al) AllReadyH.nil)
  case nd=>
   clear hS
   go_simp
   refine(xlitb_any u false).mono ?_
   rintro e ub ⟨vl,rfl,hbl,hxl⟩
   go_wp2_with fail
   refine hKo hK (blkB hbl hS0) (fun hS=>?_)
   clear hK K
   have hS0:=blkB hbl hS0
   have hbad:=hbad.stay hbl
   try have hqz:=blkB hbl hqz
   have hB:=hB.trans (hbl.mono hB.size)
   refine wpAnyH_ready (rs:=[2,3]) (by kernel_rfl) (by simp) ?_
   refine AllReadyH.cons rfl (fun K hK=>?nd2) (AllReadyH.cons rfl (fun K hK=>?al2) AllReadyH.nil)
   case nd2=>
    clear hS
    go_simp
    refine(xtwo_any ub 6 ⟨by decide,by decide⟩ vl _ _ _ hxl hbad).mono ?_
    rintro e uc ⟨vt,rfl,hbt,hxt⟩
    go_wp2_with fail
    refine hKo hK (blkB hbt hS0) (fun hS=>?_)
    clear hK K
    have hS0:=blkB hbt hS0
    try have hqz:=blkB hbt hqz
    have hB:=hB.trans (hbt.mono hB.size)
    obtain⟨p1,q1,l2,c1,m1,q2,q3,g1,g2,g3,h1,g4,g5,g6,g7,g8,g9,j1,j2,j3,j4,j5,j6,rfl⟩:=xv13 hxt
    refine rdH 3 rfl (fun K hK=>?_)
    clear hS
    go_simp
    go_wp2_with fail
    obtain⟨ua,pg,hua,hpg,hal,hqz⟩:=alloc_x uc #[.int .i64 0,.string ⟨#[]⟩,.int .i64 0,.bool false,.int .i64 0,.string ⟨#[]⟩,.string ⟨#[]⟩,.slice none 0 0,.bool false,.slice none 0 0,.slice none 0 0,.slice none 0 0,.slice none 0 0] 43
    rw[hua]
    refine hKo hK (blkB hal hS0) (fun hS=>?_)
    clear hK K
    rw[hpg]
    have hpgs:w.heap.size≤pg:=by rw[←hpg];exact hB.size
    have hne:w5.heap.size≠pg:=by have:=hS0.lt;omega
    have hS0:=blkB hal hS0
    try have hbad:=hbad.stay hal
    try have hxl:=hxl.stay hal
    try have hxt:=hxt.stay hal
    have hB:=hB.trans (hal.mono hB.size)
    refine rdH 4 rfl (fun K hK=>?_)
    clear hS
    rw[if_pos (by kernel_rfl)]
    refine wp_store_row 43 (.tmp 2) (.tmp 15) rfl pg #[.int .i64 p1,.string q1,.int .i64 l2,.bool c1,.int .i64 m1,.string q2,.string q3,.slice g1 g2 g3,.bool h1,.slice g4 g5 g6,.slice g7 g8 g9,.slice j1 j2 j3,.slice j4 j5 j6] rfl rfl 43 #[.int .i64 0,.string ⟨#[]⟩,.int .i64 0,.bool false,.int .i64 0,.string ⟨#[]⟩,.string ⟨#[]⟩,.slice none 0 0,.bool false,.slice none 0 0,.slice none 0 0,.slice none 0 0,.slice none 0 0] hqz.eq infoX13 rfl (by simp[Value.oneCell']) ?_
    refine hKo hK (hS0.setRow_other hne) (fun hS=>?_)
    clear hK K
    refine wpAnyH_done (by kernel_rfl) ?_ _
    clear hS
    have hfin:WakeM w (ua.setRow pg #[.int .i64 p1,.string q1,.int .i64 l2,.bool c1,.int .i64 m1,.string q2,.string q3,.slice g1 g2 g3,.bool h1,.slice g4 g5 g6,.slice g7 g8 g9,.slice j1 j2 j3,.slice j4 j5 j6]) pg #[.int .i64 p1,.string q1,.int .i64 l2,.bool c1,.int .i64 m1,.string q2,.string q3,.slice g1 g2 g3,.bool h1,.slice g4 g5 g6,.slice g7 g8 g9,.slice j1 j2 j3,.slice j4 j5 j6]:=⟨setRow_under hB hpgs _,hqz.setRow,wake_keep hqz rfl (fun b hb=>_root_.Go.setRow_other ua pg b _ hb) hxt⟩
    go_wp2
    go_meet
    exact⟨pg,_,_,_,_,_,_,_,_,_,_,_,_,_,_,_,_,_,_,_,_,_,_,_,rfl,Hd hfin⟩
   case al2=>
    clear hS
    go_simp
    go_wp2_with fail
    obtain⟨ua,pg,hua,hpg,hal,hqz⟩:=alloc_x ub #[.int .i64 0,.string ⟨#[]⟩,.int .i64 0,.bool false,.int .i64 0,.string ⟨#[]⟩,.string ⟨#[]⟩,.slice none 0 0,.bool false,.slice none 0 0,.slice none 0 0,.slice none 0 0,.slice none 0 0] 43
    rw[hua]
    refine hKo hK (blkB hal hS0) (fun hS=>?_)
    clear hK K
    rw[hpg]
    have hpgs:w.heap.size≤pg:=by rw[←hpg];exact hB.size
    have hne:w5.heap.size≠pg:=by have:=hS0.lt;omega
    have hS0:=blkB hal hS0
    try have hbad:=hbad.stay hal
    try have hxl:=hxl.stay hal
    try have hxt:=hxt.stay hal
    have hB:=hB.trans (hal.mono hB.size)
    refine rdH 2 rfl (fun K hK=>?_)
    clear hS
    go_simp
    refine(xtwo_any ua 6 ⟨by decide,by decide⟩ vl _ _ _ hxl hbad).mono ?_
    rintro e uc ⟨vt,rfl,hbt,hxt⟩
    go_wp2_with fail
    refine hKo hK (blkB hbt hS0) (fun hS=>?_)
    clear hK K
    have hS0:=blkB hbt hS0
    try have hqz:=blkB hbt hqz
    have hB:=hB.trans (hbt.mono hB.size)
    obtain⟨p1,q1,l2,c1,m1,q2,q3,g1,g2,g3,h1,g4,g5,g6,g7,g8,g9,j1,j2,j3,j4,j5,j6,rfl⟩:=xv13 hxt
    refine rdH 4 rfl (fun K hK=>?_)
    clear hS
    rw[if_pos (by kernel_rfl)]
    refine wp_store_row 43 (.tmp 2) (.tmp 15) rfl pg #[.int .i64 p1,.string q1,.int .i64 l2,.bool c1,.int .i64 m1,.string q2,.string q3,.slice g1 g2 g3,.bool h1,.slice g4 g5 g6,.slice g7 g8 g9,.slice j1 j2 j3,.slice j4 j5 j6] rfl rfl 43 #[.int .i64 0,.string ⟨#[]⟩,.int .i64 0,.bool false,.int .i64 0,.string ⟨#[]⟩,.string ⟨#[]⟩,.slice none 0 0,.bool false,.slice none 0 0,.slice none 0 0,.slice none 0 0,.slice none 0 0] hqz.eq infoX13 rfl (by simp[Value.oneCell']) ?_
    refine hKo hK (hS0.setRow_other hne) (fun hS=>?_)
    clear hK K
    refine wpAnyH_done (by kernel_rfl) ?_ _
    clear hS
    have hfin:WakeM w (uc.setRow pg #[.int .i64 p1,.string q1,.int .i64 l2,.bool c1,.int .i64 m1,.string q2,.string q3,.slice g1 g2 g3,.bool h1,.slice g4 g5 g6,.slice g7 g8 g9,.slice j1 j2 j3,.slice j4 j5 j6]) pg #[.int .i64 p1,.string q1,.int .i64 l2,.bool c1,.int .i64 m1,.string q2,.string q3,.slice g1 g2 g3,.bool h1,.slice g4 g5 g6,.slice g7 g8 g9,.slice j1 j2 j3,.slice j4 j5 j6]:=⟨setRow_under hB hpgs _,hqz.setRow,wake_keep hqz rfl (fun b hb=>_root_.Go.setRow_other uc pg b _ hb) hxt⟩
    go_wp2
    go_meet
    exact⟨pg,_,_,_,_,_,_,_,_,_,_,_,_,_,_,_,_,_,_,_,_,_,_,_,rfl,Hd hfin⟩
  case al=>
   clear hS
   go_simp
   go_wp2_with fail
   obtain⟨ua,pg,hua,hpg,hal,hqz⟩:=alloc_x u #[.int .i64 0,.string ⟨#[]⟩,.int .i64 0,.bool false,.int .i64 0,.string ⟨#[]⟩,.string ⟨#[]⟩,.slice none 0 0,.bool false,.slice none 0 0,.slice none 0 0,.slice none 0 0,.slice none 0 0] 43
   rw[hua]
   refine hKo hK (blkB hal hS0) (fun hS=>?_)
   clear hK K
   rw[hpg]
   have hpgs:w.heap.size≤pg:=by rw[←hpg];exact hB.size
   have hne:w5.heap.size≠pg:=by have:=hS0.lt;omega
   have hS0:=blkB hal hS0
   try have hbad:=hbad.stay hal
   try have hxl:=hxl.stay hal
   try have hxt:=hxt.stay hal
   have hB:=hB.trans (hal.mono hB.size)
   refine rdH 0 rfl (fun K hK=>?_)
   clear hS
   go_simp
   refine(xlitb_any ua false).mono ?_
   rintro e ub ⟨vl,rfl,hbl,hxl⟩
   go_wp2_with fail
   refine hKo hK (blkB hbl hS0) (fun hS=>?_)
   clear hK K
   have hS0:=blkB hbl hS0
   have hbad:=hbad.stay hbl
   try have hqz:=blkB hbl hqz
   have hB:=hB.trans (hbl.mono hB.size)
   refine rdH 2 rfl (fun K hK=>?_)
   clear hS
   go_simp
   refine(xtwo_any ub 6 ⟨by decide,by decide⟩ vl _ _ _ hxl hbad).mono ?_
   rintro e uc ⟨vt,rfl,hbt,hxt⟩
   go_wp2_with fail
   refine hKo hK (blkB hbt hS0) (fun hS=>?_)
   clear hK K
   have hS0:=blkB hbt hS0
   try have hqz:=blkB hbt hqz
   have hB:=hB.trans (hbt.mono hB.size)
   obtain⟨p1,q1,l2,c1,m1,q2,q3,g1,g2,g3,h1,g4,g5,g6,g7,g8,g9,j1,j2,j3,j4,j5,j6,rfl⟩:=xv13 hxt
   refine rdH 4 rfl (fun K hK=>?_)
   clear hS
   rw[if_pos (by kernel_rfl)]
   refine wp_store_row 43 (.tmp 2) (.tmp 15) rfl pg #[.int .i64 p1,.string q1,.int .i64 l2,.bool c1,.int .i64 m1,.string q2,.string q3,.slice g1 g2 g3,.bool h1,.slice g4 g5 g6,.slice g7 g8 g9,.slice j1 j2 j3,.slice j4 j5 j6] rfl rfl 43 #[.int .i64 0,.string ⟨#[]⟩,.int .i64 0,.bool false,.int .i64 0,.string ⟨#[]⟩,.string ⟨#[]⟩,.slice none 0 0,.bool false,.slice none 0 0,.slice none 0 0,.slice none 0 0,.slice none 0 0] hqz.eq infoX13 rfl (by simp[Value.oneCell']) ?_
   refine hKo hK (hS0.setRow_other hne) (fun hS=>?_)
   clear hK K
   refine wpAnyH_done (by kernel_rfl) ?_ _
   clear hS
   have hfin:WakeM w (uc.setRow pg #[.int .i64 p1,.string q1,.int .i64 l2,.bool c1,.int .i64 m1,.string q2,.string q3,.slice g1 g2 g3,.bool h1,.slice g4 g5 g6,.slice g7 g8 g9,.slice j1 j2 j3,.slice j4 j5 j6]) pg #[.int .i64 p1,.string q1,.int .i64 l2,.bool c1,.int .i64 m1,.string q2,.string q3,.slice g1 g2 g3,.bool h1,.slice g4 g5 g6,.slice g7 g8 g9,.slice j1 j2 j3,.slice j4 j5 j6]:=⟨setRow_under hB hpgs _,hqz.setRow,wake_keep hqz rfl (fun b hb=>_root_.Go.setRow_other uc pg b _ hb) hxt⟩
   go_wp2
   go_meet
   exact⟨pg,_,_,_,_,_,_,_,_,_,_,_,_,_,_,_,_,_,_,_,_,_,_,_,rfl,Hd hfin⟩
 case rest=>
  obtain⟨pg,p1,q1,l2,c1,m1,q2,q3,g1,g2,g3,h1,g4,g5,g6,g7,g8,g9,j1,j2,j3,j4,j5,j6,rfl,hM⟩:=hcut
  clear hq6 hB6 hbad6
  obtain⟨W1,hW1⟩:∃W1,(wc.alloc (.cells #[.int .i64 1,.slice none 0 0,.slice none 0 0,.slice none 0 0,.slice none 0 0,.slice none 0 0] 56)).alloc (.cells #[.pointer (some ⟨wc.heap.size,0,none⟩)] 48)=W1:=⟨_,rfl⟩
  have hal1:Below wc.heap.size wc W1:=by rw[←hW1];exact((Below.refl _ _).alloc (Nat.le_refl _) _).alloc (by rw[World.size_alloc];omega) _
  have hB1:=hM.out.below.trans (hal1.mono hM.out.below.size)
  have hx1:=hM.out.xv.stay hal1
  have hq1:=blkB hal1 hM.out.blk
  have hbox:Blk W1 (wc.heap.size+1) #[.pointer (some ⟨wc.heap.size,0,none⟩)] 48:=by
   rw[←hW1]
   have:=Blk.new (wc.alloc (.cells #[.int .i64 1,.slice none 0 0,.slice none 0 0,.slice none 0 0,.slice none 0 0,.slice none 0 0] 56)) #[.pointer (some ⟨wc.heap.size,0,none⟩)] 48
   rw[World.size_alloc]at this
   exact this
  have hE1:=hE.out.below hB1
  have cE:=xeval_E W1 hE1 0 _ wakeX hx1 wc.heap.size 3 (by decide) (wake_may _) wake_agg (fun V eb hV hb=>by rw[(by decide:sI (decide ((0:Int)=1))=0)]at hb;exact evWakeC V (hE1.below hV).env eb _ hb _ (hx1.stay hV))
  have t0:=hq1.cell 0 rfl
  have t1:=hq1.cell 1 rfl
  have t2a:=hq1.cell 2 rfl
  have t3:=hq1.cell 3 rfl
  have t4:=hq1.cell 4 rfl
  have t5:=hq1.cell 5 rfl
  have t6:=hq1.cell 6 rfl
  have t7:=hq1.cell 7 rfl
  have t8:=hq1.cell 8 rfl
  have t9:=hq1.cell 9 rfl
  have t10:=hq1.cell 10 rfl
  have t11:=hq1.cell 11 rfl
  have t12:=hq1.cell 12 rfl
  have z0:=hbox.cell 0 rfl
  replace cE:=Hd cE
  replace hW1:=Hd hW1
  replace hB1:=Hd hB1
  replace hx1:=Hd hx1
  replace hq1:=Hd hq1
  replace hbox:=Hd hbox
  clear hM hal1 hE1
  go_upto_region 4 with fail
  rw[hW1.out]
  go_wp2_with fail
  refine cE.out.mono ?_
  rintro e w7 ⟨rfl,hb7⟩
  clear t0 t1 t2a t3 t4 t5 t6 t7 t8 t9 t10 t11 t12
  clear z0
  obtain⟨W2,hW2⟩:∃W2,w7.alloc (.cells #[.int .i64 0,.bool false,.int .i64 0,.string ⟨#[]⟩,.string ⟨#[]⟩,.slice none 0 0] 38)=W2:=⟨_,rfl⟩
  have hal2:Below w7.heap.size w7 W2:=by rw[←hW2];exact(Below.refl _ _).alloc (Nat.le_refl _) _
  have h12:=hb7.trans (hal2.mono hb7.size)
  have hB2:=hB1.out.trans (h12.mono hB1.out.size)
  have hx2:=hx1.out.stay h12
  have hq2:=blkB h12 hq1.out
  have hbox2:=blkB h12 hbox.out
  have hE2:=hE.out.below hB2
  have cG:=xeval_G W2 hE2 1 _ wakeX hx2 wc.heap.size (fun u=>u=boolV1 false) (wake_may _) wake_agg (fun V eb hV hb=>by rw[(by decide:sI (decide ((1:Int)=1))=1)]at hb;exact evWakeS V (hE2.below hV).env eb _ hb _ (hx2.stay hV))
  have t0:=hq2.cell 0 rfl
  have t1:=hq2.cell 1 rfl
  have t2a:=hq2.cell 2 rfl
  have t3:=hq2.cell 3 rfl
  have t4:=hq2.cell 4 rfl
  have t5:=hq2.cell 5 rfl
  have t6:=hq2.cell 6 rfl
  have t7:=hq2.cell 7 rfl
  have t8:=hq2.cell 8 rfl
  have t9:=hq2.cell 9 rfl
  have t10:=hq2.cell 10 rfl
  have t11:=hq2.cell 11 rfl
  have t12:=hq2.cell 12 rfl
  have z0:=hbox2.cell 0 rfl
  replace cG:=Hd cG
  replace hW2:=Hd hW2
  replace hB2:=Hd hB2
  replace hx2:=Hd hx2
  replace hq2:=Hd hq2
  clear cE hb7 hal2 h12 hB1 hx1 hq1 hbox hbox2 hE2
  go_upto_region 5 with fail
  rw[hW2.out]
  go_wp2_with fail
  refine cG.out.mono ?_
  rintro e w8 ⟨k,b,n,t,x,ao,cap,l,rfl,hb8,hu⟩
  clear t0 t1 t2a t3 t4 t5 t6 t7 t8 t9 t10 t11 t12
  clear z0
  unfold boolV1 at hu
  injection hu with i1 i2 i3 i4 i5 i6
  subst i1 i2 i3 i4 i5 i6
  unfold agg6
  obtain⟨W3,hW3⟩:∃W3,w8.alloc (.cells #[.int .i64 1,.bool false,.int .i64 0,.string ⟨#[]⟩,.string ⟨#[]⟩,.slice ao 0 cap] 38)=W3:=⟨_,rfl⟩
  have hal3:Below w8.heap.size w8 W3:=by rw[←hW3];exact(Below.refl _ _).alloc (Nat.le_refl _) _
  have h23:=hb8.trans (hal3.mono hb8.size)
  have hB3:=hB2.out.trans (h23.mono hB2.out.size)
  have hx3:=hx2.out.stay h23
  have hq3:=blkB h23 hq2.out
  have hv3:Blk W3 w8.heap.size #[.int .i64 1,.bool false,.int .i64 0,.string ⟨#[]⟩,.string ⟨#[]⟩,.slice ao 0 cap] 38:=by rw[←hW3];exact Blk.new _ _ _
  have cK:=xcheck_any W3 (hE.out.below hB3).env 0 _ wakeX hx3
  rw[wake_may]at cK
  have t0:=hq3.cell 0 rfl
  have t1:=hq3.cell 1 rfl
  have t2a:=hq3.cell 2 rfl
  have t3:=hq3.cell 3 rfl
  have t4:=hq3.cell 4 rfl
  have t5:=hq3.cell 5 rfl
  have t6:=hq3.cell 6 rfl
  have t7:=hq3.cell 7 rfl
  have t8:=hq3.cell 8 rfl
  have t9:=hq3.cell 9 rfl
  have t10:=hq3.cell 10 rfl
  have t11:=hq3.cell 11 rfl
  have t12:=hq3.cell 12 rfl
  have z0:=hv3.cell 0 rfl
  have z1:=hv3.cell 1 rfl
  replace cK:=Hd cK
  replace hW3:=Hd hW3
  replace hB3:=Hd hB3
  clear cG hb8 hal3 h23 hB2 hx2 hq2 hv3 hx3 hq3
  go_upto_region 6 with fail
  rw[hW3.out]
  go_wp2_with fail
  refine cK.out.mono ?_
  rintro e w9 ⟨rfl,hb9⟩
  clear t0 t1 t2a t3 t4 t5 t6 t7 t8 t9 t10 t11 t12
  clear z0 z1
  have hB9:=Hd (hB3.out.trans (hb9.mono hB3.out.size))
  have cV:=Hd (xvars_q w9 ⟨#[113]⟩ _ (qX_xv w9))
  clear cK hb9 hB3
  go_wp2_with fail
  refine cV.out.mono ?_
  rintro e w10 ⟨u,rfl,hb10,hu⟩
  have hB10:=Hd (hB9.out.trans (hb10.mono hB9.out.size))
  have hal4:Below w10.heap.size w10 (w10.alloc (.cells #[.string ⟨#[113]⟩] 9)):=(Below.refl _ _).alloc (Nat.le_refl _) _
  have cQ:=Hd (eqt_one (w10.alloc (.cells #[.string ⟨#[113]⟩] 9)) u (.slice (some ⟨w10.heap.size,0,none⟩) 1 1) ⟨#[113]⟩ (rowA_up hal4 hu) (rowA_new w10 _ _))
  have hB11:=Hd (hB10.out.trans (hal4.mono hB10.out.size))
  clear cV hb10 hB9 hal4 hu hB10
  go_wp2_with fail
  refine cQ.out.mono ?_
  rintro e w12 ⟨rfl,hb12⟩
  have hB12:=Hd (hB11.out.trans (hb12.mono hB11.out.size))
  clear cQ hb12 hB11
  go_wp2
  go_ret
  exact⟨rfl,hB12.out⟩
end Go.Proofs.YtcaeipdgbaligaaGreatDoor.ex
