/- Contract of Left's closure, for a literal condition. -/
import Derived.Test.YtmpldjbdhbapbaaGreatDoorXLit2
import Derived.Test.YtmpldjbdhbapbaaGreatDoorJnC
set_option linter.unusedSimpArgs false
set_option linter.unusedVariables false
set_option maxRecDepth 100000
set_option maxHeartbeats 4000000
namespace Go.Proofs.YtmpldjbdhbapbaaGreatDoor.tab
open Go.ChangeShapes Go.WideShapes Go.ChangeAt Go.RowKit kit dec val
open hyp (RowA TextsA CellsStay stay_of_below textsV textsV_length own_row)
theorem setCell_self{w:World}{b:Nat}{v:Value}{t:TypeId}(h:Blk w b #[v] t):w.setCell ⟨b,0,none⟩ v=w:=by
 have hh:(w.setCell ⟨b,0,none⟩ v).heap=w.heap:=by
  apply Array.ext_getElem?
  intro k
  by_cases hk:k=b
  ·subst hk
   rw[(h.set 0 v).eq,h.eq]
   rfl
  ·exact heap_setCell_other w ⟨b,0,none⟩ k v hk
 unfold World.setCell at hh ⊢
 simp only at hh ⊢
 rw[hh]
theorem left1_any(N:Nat)(hN:N≤1048576)(w:World)(hE:Env w)(lb ob ib pb eb t:Nat)(lang:Int)(b:Bool)(tp:TypeId)(pl:Value)(an:Option Addr)(n cn:Nat)(rv xv:Value)(S:Nat→Prop)(L:List (List V))(x:List V)(bo:Bool)
 (hl:Blk w lb #[.int .i64 lang] 3)(ho:Blk w ob #[.int .i64 1,.string ByteArray.empty,.int .i64 1,.bool b,.int .i64 0,.string ByteArray.empty,.string ByteArray.empty,.slice none 0 0,.bool false,.slice none 0 0,.slice none 0 0,.slice none 0 0,.slice none 0 0] 39)(hi:Blk w ib #[.iface tp pl] 64)(hp:w.cell? ⟨pb,0,none⟩=some (.slice an n cn))(he:Blk w eb #[.int .i64 0] 41)
 (ht:Blk w t #[.slice an n cn,rv] 25)(hM:MR w N S rv L)(hSlt:∀b,S b→b<w.heap.size)(hSt:¬S t)(hSe:¬S eb)(het:eb≠t)(hla:LA w N xv x)(hlen:L.length+1≤1048576):
 Calls Tryz.prog 27 #[xv,.bool bo,.pointer (some ⟨lb,0,none⟩),.pointer (some ⟨ob,0,none⟩),.pointer (some ⟨ib,0,none⟩),.pointer (some ⟨pb,0,none⟩),.pointer (some ⟨eb,0,none⟩),.pointer (some ⟨t,0,none⟩)] w fun e w'=>e=.returned (.bool true)∧∃rv',Blk w' t #[.slice an n cn,rv'] 25∧MR w' N (fun k=>S k∨(w.heap.size≤k∧k<w'.heap.size)) rv' (L++if b=true then[x] else[])∧Spared (fun k=>k=t∨S k) w w':=by
 obtain⟨ao,cap,rfl⟩:=hla.form6
 obtain⟨aor,capr,rfl⟩:=hM.form
 have cT:=Hd (fun tp pl=>xtruth_lit w hE lang b tp pl)
 have l0:=hl.cell 0 rfl
 have i0:=hi.cell 0 rfl
 have hz:=hp
 have x0:=ho.cell 0 rfl
 have x1:=ho.cell 1 rfl
 have x2:=ho.cell 2 rfl
 have x3:=ho.cell 3 rfl
 have x4:=ho.cell 4 rfl
 have x5:=ho.cell 5 rfl
 have x6:=ho.cell 6 rfl
 have x7:=ho.cell 7 rfl
 have x8:=ho.cell 8 rfl
 have x9:=ho.cell 9 rfl
 have x10:=ho.cell 10 rfl
 have x11:=ho.cell 11 rfl
 have x12:=ho.cell 12 rfl
 replace hM:=Hd hM
 replace hla:=Hd hla
 replace ht:=Hd ht
 clear hl ho hi hp
 obtain⟨tv,htv⟩:∃tv,tvB b=tv:=⟨_,rfl⟩
 rw[htv]at cT
 replace htv:=Hd htv
 go_enter Tryz.func27,Tryz.ntmps27
 go_wp2_with fail
 refine(cT.out _ _).mono ?_
 rintro e w2 ⟨rfl,hb2⟩
 clear x0 x1 x2 x3 x4 x5 x6 x7 x8 x9 x10 x11 x12
 clear l0 i0 cT hz
 have he2:Blk w2 eb #[.int .i64 0] 41:=(hb2.block _ he.lt).trans he
 have hself:=setCell_self he2
 have z0:=he2.cell 0 rfl
 have f0:=he2.free 0
 have hM2:=hM.out.stay (fun b hS hlt=>hb2.block b hlt)
 have hla2:=hla.out.stay hb2
 have ht2:Blk w2 t _ _:=(hb2.block _ ht.out.lt).trans ht.out
 have hs2:=hb2.size
 have hSp2:=Hd (Spared.ofBelow (S:=fun k=>k=t∨S k) hb2)
 replace hM2:=Hd hM2
 replace hla2:=Hd hla2
 replace ht2:=Hd ht2
 replace hself:=Hd hself
 have he2h:=Hd he2
 clear hb2 he he2 hM hla ht
 go_upto_region 3 with fail
 try rw[hself.out]
 have hself2:=hself.out
 cases b with
 |false=>
  obtain rfl:tv=0:=htv.out.symm
  go_wp2
  go_ret
  refine⟨rfl,.slice aor L.length capr,ht2.out,?_,hSp2.out⟩
  exact hM2.out.mono fun b hS=>.inl hS
 | true =>
  obtain rfl:tv=1:=htv.out.symm
  have hSlt2:∀b,S b→b<w2.heap.size:=fun b hb=>Nat.lt_of_lt_of_le (hSlt b hb) hs2
  go_upto_region 4 with fail
  clear z0 f0 hself2 hself
  have hM:=hM2.out
  have hla:=hla2.out
  have ht:=ht2.out
  have hSlt0:=hSlt
  replace hSlt:=hSlt2
  clear hM2 hla2 ht2 hSlt2
  have hal:Below w2.heap.size w2 w2.drew:=below_drewN (Below.refl _ _) 1
  have hsz:w2.drew.heap.size=w2.heap.size:=rfl
  have hMV:=hM.stay (w':=w2.drew) (fun b hS hlt=>hal.block b hlt)
  have hlaV:=hla.stay hal
  have hS0:Blk w2.drew t #[.slice an n cn,.slice aor L.length capr] 25:=ht
  have hSp:=Hd (Spared.ofBelow (S:=fun b=>b=t∨S b) hal)
  refine wp_region_late [7] (S:=fun V=>Blk V t #[.slice an n cn,.slice aor L.length capr] 25) (by kernel_rfl) hS0 (fun hS=>?_)
  have hV:=hS0
  have htl:=hV.lt
  clear hS0 hal hla hM ht
  rw[←hsz]at hSlt
  obtain⟨q,hq⟩:∃q,w2.heap.size=q:=⟨_,rfl⟩
  have hcall:=Hd (jrow_any N (by omega) w2.drew _ _ hlaV)
  generalize w2.drew=V0 at *
  refine tlH 0 ?_ rfl (fun w' hS=>?_) hS ?_
  rotate_left
  ·
   skip
   go_simp
   try with_reducible rfl
  refine tlH 1 ?_ rfl (fun w' hS=>?_) hS ?_
  rotate_left
  ·
   have z0:=hS.cell 0 rfl;have z1:=hS.cell 1 rfl
   go_simp
   try with_reducible rfl
  refine tlH 2 ?_ rfl (fun w' hS=>?_) hS ?_
  rotate_left
  ·
   skip
   go_simp
   try with_reducible rfl
  refine wpAnyL_ready (i:=3) (by kernel_rfl) rfl (fun K hK=>?_)
  clear hS
  go_simp
  refine(hcall.out).mono ?_
  rintro e w5 ⟨a9,c9,rfl,hb5,hl5⟩
  go_wp2_with fail
  refine hKo hK ((hb5.block _ hV.lt).trans hV) (fun hS=>?_)
  clear hK K
  have hM5:=hMV.stay (fun b hS hlt=>hb5.block b hlt)
  have hs5:=hb5.size
  have hV5:Blk w5 t _ _:=(hb5.block _ hV.lt).trans hV
  have hSp5:=Hd (hSp.out.trans (Spared.ofBelow hb5))
  clear hcall hV hMV hlaV hSp hb5
  refine wpAnyL_ready (i:=4) (by kernel_rfl) rfl (fun K hK=>?_)
  clear hS
  go_simp
  go_wp2_with fail
  have hal:=((Below.refl w5.heap.size w5).alloc (Nat.le_refl _) (.cells #[.slice a9 x.length c9] 32))
  have hM6:=hM5.stay (fun b hS hlt=>hal.block b hlt)
  have hl6:=hl5.stay (fun b hS hlt=>hal.block b hlt)
  have hs6:=World.size_alloc w5 (.cells #[.slice a9 x.length c9] 32)
  have hn6:(w5.alloc (.cells #[.slice a9 x.length c9] 32)).cell? ⟨w5.heap.size,0,none⟩=some (.slice a9 x.length c9):=(Blk.new w5 #[.slice a9 x.length c9] 32).cell 0 rfl
  have hV6:=hV5.alloc (.cells #[.slice a9 x.length c9] 32)
  have hSp6:=Hd (hSp5.out.trans (Spared.ofBelow hal))
  refine hKo hK hV6 (fun hS=>?_)
  clear hK K hM5 hl5 hV5 hSp5
  refine wpAnyL_ready (i:=5) (by kernel_rfl) rfl (fun K hK=>?_)
  clear hS
  refine wp_pushR (.tmp 31) (.tmp 34) rfl N S (Fr V0.heap.size w5) _ _ rfl hM6 ?d2 w5.heap.size _ (.slice a9 x.length c9) rfl hn6 hl6 ?d3 hlen ?d5
  case d2=>intro b hb;rw[hs6];have:=hSlt b hb;omega
  case d3=>intro b hb;exact⟨by rw[hs6];have:=hb.2;omega,fun h=>by have:=hSlt b h;have:=hb.1;omega⟩
  intro v' w' hM' hg hvS
  have hgs:=hg.size
  rw[hs6]at hgs
  have hV7:Blk w' t _ _:=(hg.block _ hV6.lt (fun e=>hSt (hvS _ e.symm))).trans hV6
  have hSp7:=Hd (hSp6.out.trans (Spared.grown hg (fun g e=>.inr (hvS g e))))
  obtain⟨ao7,cap7,hv7⟩:=hM'.form
  rw[List.length_append,List.length_singleton]at hv7
  subst hv7
  refine hKo hK hV7 (fun hS=>?_)
  clear hK K hM6 hl6 hn6 hg hvS hV6 hSp6 hal
  refine tlH 6 ?_ rfl (fun w' hS=>?_) hS ?_
  rotate_left
  ·
   skip
   go_simp
   try with_reducible rfl
  refine wpAnyL_late (i:=7) (by kernel_rfl) rfl (by kernel_rfl) (fun K hK=>?_)
  clear hS
  have f1:=hV7.free 1
  have z0:=hV7.cell 0 rfl
  have z1:=hV7.cell 1 rfl
  have hV8:=hV7.set 1 (.slice ao7 (L.length+1) cap7)
  have hSp8:=Hd (hSp7.out.cell t 1 (.inl rfl) (.slice ao7 (L.length+1) cap7))
  go_simp
  go_wp2_with fail
  refine hK.out _ _ ?_
  clear hK K f1 z0 z1
  try simp only[List.getElem_toArray,List.getElem_cons_succ,List.getElem_cons_zero,Act.put,List.setIfInBounds_toArray,List.set_cons_zero,List.set_cons_succ]
  refine wpAnyL_done (by kernel_rfl) ?_ _
  replace hV8:=Hd hV8
  have hsc:(w'.setCell ⟨t,1,none⟩ (.slice ao7 (L.length+1) cap7)).heap.size=w'.heap.size:=by simp[World.setCell]
  have hM8:=Hd ((hM'.mono (S':=fun b=>S b∨(w2.heap.size≤b∧b<(w'.setCell ⟨t,1,none⟩ (.slice ao7 (L.length+1) cap7)).heap.size)) (fun b hb=>by
   rw[hsc]
   rcases hb with hb|hb|hb
   ·exact .inl hb
   ·have h1:=hb.1
    have h2:=hb.2
    exact .inr ⟨by omega,by omega⟩
   ·have h1:=hb.1
    have h2:=hb.2
    exact .inr ⟨by omega,by omega⟩)).stay (w':=w'.setCell ⟨t,1,none⟩ (.slice ao7 (L.length+1) cap7)) (fun b hb hlt=>Below.heap_setCell _ _ _ b (fun e=>by
   have e2:b=t:=e
   subst e2
   rcases hb with hb|hb
   ·exact hSt hb
   ·have:=hb.1
    omega)))
  have hSpF:=hSp2.out.trans hSp8.out
  have heF:Blk (w'.setCell ⟨t,1,none⟩ (.slice ao7 (L.length+1) cap7)) eb #[.int .i64 0] 41:=(hSp8.out.block eb he2h.out.lt (fun h=>h.elim het hSe)).trans he2h.out
  have z0:=heF.cell 0 rfl
  replace hSpF:=Hd hSpF
  clear hM' hV7 heF hSp8
  go_wp2
  go_ret
  refine⟨rfl,_,hV8.out,?_,hSpF.out⟩
  exact hM8.out.mono fun b hb=>hb.elim .inl fun h=>.inr ⟨Nat.le_trans hs2 h.1,h.2⟩
end Go.Proofs.YtmpldjbdhbapbaaGreatDoor.tab
