/- Texts JnRow, JnTog, JnMeetP, JnStore, JnMeet, JnTog2, one behind the other. -/
import Derived.Test.YtmpldjbdhbapbaaGreatDoorTabKA
import Derived.Test.YtmpldjbdhbapbaaGreatDoorRefA
import Derived.Test.YtmpldjbdhbapbaaGreatDoorTabJnA
set_option linter.unusedSimpArgs false
set_option linter.unusedVariables false
set_option maxRecDepth 100000
set_option maxHeartbeats 4000000
namespace Go.Proofs.YtmpldjbdhbapbaaGreatDoor.tab
open Go.ChangeShapes Go.WideShapes Go.ChangeAt Go.RowKit kit dec val
def CopdJ(N m:Nat):Prop:=∀(w:World) (k:Int) (b:Bool) (n:Int) (t x:ByteArray) (s:Value) (l:List V),SizeOf.sizeOf l<m→LA w N s l →
 Calls Tryz.prog 49 #[agg6 k b n t x s] w fun e w'=>∃ao cap,e=.returned (agg6 k b n t x (.slice ao l.length cap))∧Below w.heap.size w w'∧LF w' N (Fr w.heap.size w') (.slice ao l.length cap) l
theorem jcopied_all(N:Nat)(hN:N≤1048576):∀m,CopdJ N m:=by
 intro m
 induction m with
 |zero=>intro w k b n t x s l hm;omega
 | succ m ih =>
  intro w k b n t x s l hm ha
  obtain⟨ao,cap,rfl⟩:=ha.form6
  have hNl:=(ha.elems _ _ _ rfl).1
  replace ih:=Hd ih
  have hli:(l.length:Int)≤9223372036854775807:=by omega
  replace ha:=Hd ha
  go_enter Tryz.func49,Tryz.ntmps49
  unfold agg6
  go_wp2
  go_loopw [11] (fun v wr=>∃(i:Nat) (sv:Value),i≤l.length∧v=.int .i64 i∧Hid (LF wr N (Fr (w.heap.size+2) wr) sv (l.take i))∧Hid (Blk wr w.heap.size #[.int .i64 k,.bool b,.int .i64 n,.string t,.string x,sv] 34)∧Hid (Blk wr (w.heap.size+1) #[.int .i64 0,.bool false,.int .i64 0,.string ByteArray.empty,.string ByteArray.empty,.slice none 0 0] 34)∧Hid (Below w.heap.size w wr)∧w.heap.size+2≤wr.heap.size) (fun v _=>l.length-(intOf v).toNat)
  case atStart=>
   have hq0:=(Blk.new w #[.int .i64 k,.bool b,.int .i64 n,.string t,.string x,.slice none 0 0] 34).alloc (.cells #[.int .i64 0,.bool false,.int .i64 0,.string ByteArray.empty,.string ByteArray.empty,.slice none 0 0] 34)
   have hq1:=Blk.new (w.alloc (.cells #[.int .i64 k,.bool b,.int .i64 n,.string t,.string x,.slice none 0 0] 34)) #[.int .i64 0,.bool false,.int .i64 0,.string ByteArray.empty,.string ByteArray.empty,.slice none 0 0] 34
   rw[World.size_alloc]at hq1
   exact⟨0,_,by omega,rfl,LF.nil _ _ _,hq0,hq1,((Below.refl _ _).alloc (Nat.le_refl _) _).alloc (by rw[World.size_alloc];omega) _,by rw[World.size_alloc,World.size_alloc];omega⟩
  case round=>
   obtain⟨i,sv,hi,rfl,hlf,hq0,hq1,hb,hsz⟩:=hrel
   obtain⟨w0,rfl⟩:∃w0:World,w0=wr:=⟨_,rfl⟩
   by_cases hlt:i<l.length
   ·have hki:(i:Int)<(l.length:Int):=by omega
    obtain⟨b1,off,k1,bo,n1,t1,x1,l1,aoE,capE,rfl,he,hr,hok,hsl⟩:=la_at (ha.out.stay hb.out) i hlt
    have hmem:SizeOf.sizeOf l[i]<SizeOf.sizeOf l:=List.sizeOf_lt_of_mem (List.getElem_mem _)
    rw[he]at hmem
    have hm1:SizeOf.sizeOf l1<m:=by simp at hmem;omega
    have htk:=List.take_succ_eq_append_getElem hlt
    rw[he]at htk
    replace htk:=Hd htk
    obtain⟨x0,x1a,x2,x3,x4,x5⟩:=hr.six
    clear hmem hr he
    go_upto_region 6 with fail
    clear x0 x1a x2 x3 x4 x5
    have hal:Below w0.heap.size w0 (w0.alloc (.cells #[.int .i64 k1,.bool bo,.int .i64 n1,.string t1,.string x1,.slice aoE l1.length capE] 34)).drew:=((Below.refl _ _).alloc (Nat.le_refl _) _).drew
    have hE:=(Blk.new w0 #[.int .i64 k1,.bool bo,.int .i64 n1,.string t1,.string x1,.slice aoE l1.length capE] 34).drewN 1
    have hS0:Blk (w0.alloc (.cells #[.int .i64 k1,.bool bo,.int .i64 n1,.string t1,.string x1,.slice aoE l1.length capE] 34)).drew w.heap.size #[.int .i64 k,.bool b,.int .i64 n,.string t,.string x,sv] 34∧Blk (w0.alloc (.cells #[.int .i64 k1,.bool bo,.int .i64 n1,.string t1,.string x1,.slice aoE l1.length capE] 34)).drew w0.heap.size #[.int .i64 k1,.bool bo,.int .i64 n1,.string t1,.string x1,.slice aoE l1.length capE] 34:=⟨(hq0.out.alloc _).drewN 1,hE⟩
    have hlfV:=hlf.out.stay fun b hS hlt=>hal.block b hlt
    have hslV:=hsl.stay hal
    have hq1V:=(hq1.out.alloc (.cells #[.int .i64 k1,.bool bo,.int .i64 n1,.string t1,.string x1,.slice aoE l1.length capE] 34)).drewN 1
    have hbV:=hb.out.trans (hal.mono hb.out.size)
    have hsV:=hal.size
    refine wp_region_late [7] (S:=fun V=>Blk V w.heap.size #[.int .i64 k,.bool b,.int .i64 n,.string t,.string x,sv] 34∧Blk V w0.heap.size #[.int .i64 k1,.bool bo,.int .i64 n1,.string t1,.string x1,.slice aoE l1.length capE] 34) (by kernel_rfl) hS0 (fun hS=>?_)
    have hV:=hS0
    clear hS0 hal hE hsl hq0 hq1 hb hlf
    have hq1V':Blk (w0.alloc (.cells #[.int .i64 k1,.bool bo,.int .i64 n1,.string t1,.string x1,.slice aoE l1.length capE] 34)).drew (w.heap.size+1) #[.int .i64 0,.bool false,.int .i64 0,.string ByteArray.empty,.string ByteArray.empty,.slice none 0 0] 34:=hq1V
    clear hq1V
    generalize (w0.alloc (.cells #[.int .i64 k1,.bool bo,.int .i64 n1,.string t1,.string x1,.slice aoE l1.length capE] 34)).drew=V0 at *
    have hcall:=ih.out V0 k1 bo n1 t1 x1 _ l1 hm1 hslV
    unfold agg6 at hcall
    replace hcall:=Hd hcall
    refine tlH 0 ?_ rfl (fun w' hS=>?_) hS ?_
    rotate_left
    ·
     skip
     go_simp
     try with_reducible rfl
    refine tlH 1 ?_ rfl (fun w' hS=>?_) hS ?_
    rotate_left
    ·
     have x0:=hS.1.cell 0 rfl
     have x1:=hS.1.cell 1 rfl
     have x2:=hS.1.cell 2 rfl
     have x3:=hS.1.cell 3 rfl
     have x4:=hS.1.cell 4 rfl
     have x5:=hS.1.cell 5 rfl
     go_simp
     try with_reducible rfl
    refine tlH 2 ?_ rfl (fun w' hS=>?_) hS ?_
    rotate_left
    ·
     have x0:=hS.2.cell 0 rfl
     have x1:=hS.2.cell 1 rfl
     have x2:=hS.2.cell 2 rfl
     have x3:=hS.2.cell 3 rfl
     have x4:=hS.2.cell 4 rfl
     have x5:=hS.2.cell 5 rfl
     go_simp
     try with_reducible rfl
    refine wpAnyL_ready (i:=3) (by kernel_rfl) rfl (fun K hK=>?_)
    clear hS
    go_simp
    refine(hcall.out).mono ?_
    rintro e w5 ⟨ao2,cap2,rfl,hb5,hl5⟩
    go_wp2_with fail
    refine hKo hK (⟨hV.1.keep (Keep.ofBelow hb5) (by simp),hV.2.keep (Keep.ofBelow hb5) (by simp)⟩) (fun hS=>?_)
    clear hK K
    have hV5:Blk w5 w.heap.size _ _∧Blk w5 w0.heap.size _ _:=⟨hV.1.keep (Keep.ofBelow hb5) (by simp),hV.2.keep (Keep.ofBelow hb5) (by simp)⟩
    have hlf5:=hlfV.stay fun b hS hlt=>hb5.block b hlt
    have hq5:Blk w5 (w.heap.size+1) _ _:=hq1V'.keep (Keep.ofBelow hb5) (by simp)
    have hb5':=hbV.trans (hb5.mono hbV.size)
    have hs5:=hb5.size
    clear hcall hV hlfV hq1V' hslV
    refine wpAnyL_ready (i:=4) (by kernel_rfl) rfl (fun K hK=>?_)
    clear hS
    go_simp
    go_wp2_with fail
    have hal:=((Below.refl w5.heap.size w5).alloc (Nat.le_refl _) (.cells (six (.mk k1 bo n1 t1 x1 l1) (.slice ao2 l1.length cap2)).toArray 34))
    have hV6:=(⟨hV5.1.alloc _,hV5.2.alloc _⟩:Blk (w5.alloc (.cells (six (.mk k1 bo n1 t1 x1 l1) (.slice ao2 l1.length cap2)).toArray 34)) w.heap.size _ _∧Blk (w5.alloc (.cells (six (.mk k1 bo n1 t1 x1 l1) (.slice ao2 l1.length cap2)).toArray 34)) w0.heap.size _ _)
    have hq6:=hq5.alloc (.cells (six (.mk k1 bo n1 t1 x1 l1) (.slice ao2 l1.length cap2)).toArray 34)
    have hn6:=Blk.new w5 (six (.mk k1 bo n1 t1 x1 l1) (.slice ao2 l1.length cap2)).toArray 34
    have hlf6:=hlf5.stay fun b hS hlt=>hal.block b hlt
    have hl6:=hl5.stay fun b hS hlt=>hal.block b hlt
    have hb6:=hb5'.trans (hal.mono hb5'.size)
    have hs6:=World.size_alloc w5 (.cells (six (.mk k1 bo n1 t1 x1 l1) (.slice ao2 l1.length cap2)).toArray 34)
    refine hKo hK hV6 (fun hS=>?_)
    clear hK K hV5 hq5 hlf5 hl5 hb5' hal
    refine wpAnyL_ready (i:=5) (by kernel_rfl) rfl (fun K hK=>?_)
    clear hS
    refine wp_push1 (.tmp 16) (.tmp 19) rfl N hN (Fr (w.heap.size+2) w0) (Fr V0.heap.size w5) sv (l.take i) rfl hlf6 ?d2 w5.heap.size (.mk k1 bo n1 t1 x1 l1) (.slice ao2 l1.length cap2) rfl hn6 hl6 ?d3 hok ?d4 ?d5
    case d2=>intro b hb;rw[World.size_alloc];have:=hb.2;omega
    case d3=>intro b hb;exact⟨by rw[World.size_alloc];have:=hb.2;omega,fun h=>by have:=h.2;have:=hb.1;omega⟩
    case d4=>rw[List.length_take];omega
    case d5=>
     intro v' w' hlf' hg hvS
     have hV7:=(⟨(hg.block _ hV6.1.lt (fun e=>by have:=(hvS _ e.symm).1;omega)).trans hV6.1,(hg.block _ hV6.2.lt (fun e=>by have:=(hvS _ e.symm).2;omega)).trans hV6.2⟩:Blk w' w.heap.size _ _∧Blk w' w0.heap.size _ _)
     have hq7:Blk w' (w.heap.size+1) _ _:=(hg.block _ hq6.lt (fun e=>by have:=(hvS _ e.symm).1;omega)).trans hq6
     have hb7:=hb6.grown hg hb6.size (fun g e=>by have:=(hvS _ e).1;omega)
     have hs7:=hg.size
     rw[World.size_alloc]at hs7
     have hlf7:=hlf'.mono (S':=Fr (w.heap.size+2) w') (by
      rintro b (hb|hb|hb)
      ·exact⟨hb.1,by have:=hb.2;omega⟩
      ·exact⟨by have:=hb.1;omega,by have:=hb.2;omega⟩
      ·exact⟨by have:=hb.1;rw[World.size_alloc]at this;omega,hb.2⟩)
     have hlen7:(l.take i++[V.mk k1 bo n1 t1 x1 l1]).length=i+1:=by rw[List.length_append,List.length_take];simp;omega
     obtain⟨ao7,cap7,rfl,_⟩:=hlf7.form
     refine hKo hK hV7 (fun hS=>?_)
     clear hK K hV6 hq6 hlf6 hl6 hb6 hn6 hlf' hg hvS
     refine tlH 6 ?_ rfl (fun w' hS=>?_) hS ?_
     rotate_left
     ·
      skip
      go_simp
      try with_reducible rfl
     refine wpAnyL_late (i:=7) (by kernel_rfl) rfl (by kernel_rfl) (fun K hK=>?_)
     clear hS
     have f0:=hV7.1.free 5
     have x0:=hV7.1.cell 0 rfl
     have x1:=hV7.1.cell 1 rfl
     have x2:=hV7.1.cell 2 rfl
     have x3:=hV7.1.cell 3 rfl
     have x4:=hV7.1.cell 4 rfl
     have x5:=hV7.1.cell 5 rfl
     go_simp
     go_wp2_with fail
     refine hK.out _ _ ?_
     clear hK K x0 x1 x2 x3 x4 x5 f0
     try simp only[List.getElem_toArray,List.getElem_cons_succ,List.getElem_cons_zero,Act.put,List.setIfInBounds_toArray,List.set_cons_zero,List.set_cons_succ]
     refine wpAnyL_done (by kernel_rfl) ?_ _
     have hq8:=Hd (hq7.set_other ⟨w.heap.size,5,none⟩ (by simp) (.slice ao7 (i+1) cap7))
     have hV8:=Hd (hV7.1.set 5 (.slice ao7 (i+1) cap7))
     have hlf8:=Hd ((hlf7.setCell ⟨w.heap.size,5,none⟩ (fun h=>by have:=h.1;simp at this;omega) (.slice ao7 (i+1) cap7)).mono (S':=Fr (w.heap.size+2) (w'.setCell ⟨w.heap.size,5,none⟩ (.slice ao7 (i+1) cap7))) fun b hb=>⟨hb.1,by have:=hb.2;simpa only[World.setCell,Array.size_modify]using this⟩)
     rw[hlen7]at hlf8
     have hb8:=Hd (hb7.setCell (p:=⟨w.heap.size,5,none⟩) (Nat.le_refl _) (.slice ao7 (i+1) cap7))
     clear hq7 hV7 hlf7 hb7
     clear hlen7
     go_wp2
     go_roundw
     case rel=>exact⟨i+1,_,by omega,by go_num,by rw[htk.out];exact hlf8,hV8,hq8,hb8,by simp[World.setCell];omega⟩
     case measure=>simp[intOf];omega
   ·have hki:¬(i:Int)<(l.length:Int):=by omega
    obtain rfl:i=l.length:=by omega
    have hl3:=hlf.out
    rw[List.take_length]at hl3
    obtain⟨ao3,cap3,rfl,_⟩:=hl3.form
    have x0:=hq0.out.cell 0 rfl
    have x1:=hq0.out.cell 1 rfl
    have x2:=hq0.out.cell 2 rfl
    have x3:=hq0.out.cell 3 rfl
    have x4:=hq0.out.cell 4 rfl
    have x5:=hq0.out.cell 5 rfl
    have y0:=hq1.out.cell 0 rfl
    have y1:=hq1.out.cell 1 rfl
    have y2:=hq1.out.cell 2 rfl
    have y3:=hq1.out.cell 3 rfl
    have y4:=hq1.out.cell 4 rfl
    have y5:=hq1.out.cell 5 rfl
    have f1:=hq1.out.free
    replace hl3:=Hd hl3
    clear hlf
    go_wp2
    have hfin:=Blk.set6 hq1.out (.int .i64 k) (.bool b) (.int .i64 n) (.string t) (.string x) (.slice ao3 l.length cap3)
    have hlf:=hl3.out.set6 (w.heap.size+1) (fun h=>by have:=h.1;omega) (.int .i64 k) (.bool b) (.int .i64 n) (.string t) (.string x) (.slice ao3 l.length cap3)
    have hbf:=Below.set6 hb.out (b:=w.heap.size+1) (Nat.le_succ _) (.int .i64 k) (.bool b) (.int .i64 n) (.string t) (.string x) (.slice ao3 l.length cap3)
    refine bodyPost_ret (v:=agg6 k b n t x (.slice ao3 l.length cap3)) (results_cell_row rfl _ _ (w.heap.size+1) 34 _ (0,0) _ rfl hfin.eq Tryz.underlying34 rfl infoV6) rfl ⟨ao3,cap3,rfl,hbf,hlf.mono fun b hb=>⟨by have:=hb.1;omega,by have:=hb.2;simpa only[World.setCell,Array.size_modify]using this⟩⟩
theorem jrow_any(N:Nat)(hN:N≤1048576)(w:World)(s:Value)(l:List V)(hs:LA w N s l):
 Calls Tryz.prog 24 #[s] w fun e w'=>∃a c,e=.returned (.slice a l.length c)∧Below w.heap.size w w'∧LF w' N (Fr w.heap.size w') (.slice a l.length c) l:=by
 obtain⟨ao,cap,rfl⟩:=hs.form6
 have hNl:=(hs.elems _ _ _ rfl).1
 have hmk:=make_vals 0 l.length (Nat.zero_le _) (by omega) w
 rw[show((0:Nat):Int)=0 from rfl]at hmk
 have ha:=Hd hs
 have hL0:=Hd (LF.made0 w N l.length (by omega) (Fr w.heap.size (w.alloc (.cells (zeroCells l.length) 34))) ⟨Nat.le_refl _,by simp⟩)
 have hb0:Hid (Below w.heap.size w (w.alloc (.cells (zeroCells l.length) 34))):=Hd ((Below.refl _ _).alloc (Nat.le_refl _) _)
 clear hs
 go_enter Tryz.func24,Tryz.ntmps24
 go_wp2
 go_loopw [3,11] (fun o i wr=>∃k:Nat,k≤l.length∧i=.int .i64 (k:Int)∧Hid (LF wr N (Fr w.heap.size wr) o (l.take k))∧Hid (Below w.heap.size w wr)) (fun _ i _=>l.length-(intOf i).toNat)
 case atStart=>exact⟨0,by omega,rfl,by simpa using hL0,hb0⟩
 case round=>
  clear hL0 hb0 hmk
  obtain⟨k,hk,rfl,hlf,hb⟩:=hrel
  obtain⟨w0,rfl⟩:∃w0:World,w0=wr:=⟨_,rfl⟩
  by_cases hlt:k<l.length
  ·have hki:(k:Int)<(l.length:Int):=by omega
   have hk1:=Hd (show k+1≤l.length from hlt)
   obtain⟨b1,off,k1,bo,n1,t1,x1,l1,aoE,capE,rfl,he,hr,hok,hsl⟩:=la_at (ha.out.stay hb.out) k hlt
   have htk:=List.take_succ_eq_append_getElem hlt
   rw[he]at htk
   have htl:(l.take k).length+1≤N:=by rw[List.length_take];omega
   have htl2:(l.take k).length=k:=by rw[List.length_take];omega
   replace htk:=Hd htk
   obtain⟨x0,x1a,x2,x3,x4,x5⟩:=hr.six
   have hal:Below w0.heap.size w0 (w0.alloc (.cells #[.int .i64 k1,.bool bo,.int .i64 n1,.string t1,.string x1,.slice aoE l1.length capE] 34)):=(Below.refl _ _).alloc (Nat.le_refl _) _
   have hcp:=jcopied_all N hN (SizeOf.sizeOf l1+1) (w0.alloc (.cells #[.int .i64 k1,.bool bo,.int .i64 n1,.string t1,.string x1,.slice aoE l1.length capE] 34)) k1 bo n1 t1 x1 _ l1 (Nat.lt_succ_self _) (hsl.stay hal)
   unfold agg6 at hcp
   have hE:=Blk.new w0 #[.int .i64 k1,.bool bo,.int .i64 n1,.string t1,.string x1,.slice aoE l1.length capE] 34
   have y0:=hE.cell 0 rfl
   have y1:=hE.cell 1 rfl
   have y2:=hE.cell 2 rfl
   have y3:=hE.cell 3 rfl
   have y4:=hE.cell 4 rfl
   have y5:=hE.cell 5 rfl
   replace hcp:=Hd hcp
   replace hal:=Hd hal
   clear hr he hsl hlt hE
   go_wp2_with fail
   refine hcp.out.mono ?_
   rintro e w5 ⟨ao2,cap2,rfl,hb5,hl5⟩
   have hlf0:=hlf.out.stay fun b hS hlt=>hal.out.block b hlt
   have hlf5:=hlf0.stay fun b hS hlt=>hb5.block b hlt
   have hb05:=hb.out.trans ((hal.out.trans (hb5.mono hal.out.size)).mono hb.out.size)
   have hs0:=hal.out.size
   have hb05s:=hb.out.size
   have hs5:=hb5.size
   have hnb:Below w5.heap.size w5 (w5.alloc (.cells (six (.mk k1 bo n1 t1 x1 l1) (.slice ao2 l1.length cap2)).toArray 34)):=(Below.refl _ _).alloc (Nat.le_refl _) _
   have hlf6:=hlf5.stay fun b hS hlt=>hnb.block b hlt
   have hl6:=hl5.stay fun b hS hlt=>hnb.block b hlt
   have hn6:=Blk.new w5 (six (.mk k1 bo n1 t1 x1 l1) (.slice ao2 l1.length cap2)).toArray 34
   have hb6:=hb05.trans (hnb.mono hb05.size)
   have hsz6:=World.size_alloc w5 (.cells (six (.mk k1 bo n1 t1 x1 l1) (.slice ao2 l1.length cap2)).toArray 34)
   have hd2:∀b,Fr w.heap.size w0 b→b<(w5.alloc (.cells (six (.mk k1 bo n1 t1 x1 l1) (.slice ao2 l1.length cap2)).toArray 34)).heap.size:=fun b h=>by have:=h.2;omega
   have hd3:∀b,Fr (w0.alloc (.cells #[.int .i64 k1,.bool bo,.int .i64 n1,.string t1,.string x1,.slice aoE l1.length capE] 34)).heap.size w5 b→b<(w5.alloc (.cells (six (.mk k1 bo n1 t1 x1 l1) (.slice ao2 l1.length cap2)).toArray 34)).heap.size∧¬Fr w.heap.size w0 b:=fun b h=>⟨by have:=h.2;omega,fun h2=>by have:=h2.2;have:=h.1;omega⟩
   clear hlf hcp hlf0 hlf5 hb05 hnb hb5 hl5 hal hb
   go_wp2_with (at_builtin;refine wpList_push1 rfl _ _ rfl N hN (Fr w.heap.size w0) _ u3 (l.take k) rfl hlf6 hd2 w5.heap.size (.mk k1 bo n1 t1 x1 l1) (.slice ao2 l1.length cap2) rfl hn6 hl6 hd3 hok htl ?pa)
   case pa=>
    intro v7 w7 h1 hg hvS
    rw[←htk.out]at h1
    have h7:Hid (LF w7 N (Fr w.heap.size w7) v7 (l.take (k+1))):=Hd (h1.mono fun b hb=>by
     have hgs:=hg.size
     have hw:=hb6.size
     rw[World.size_alloc]at hgs
     rcases hb with hb|hb|hb
     ·exact⟨hb.1,by have:=hb.2;omega⟩
     ·exact⟨by have h:=hb.1;have:=hb05s;simp only[World.size_alloc]at *;omega,by have:=hb.2;omega⟩
     ·exact⟨by have h:=hb.1;simp only[World.size_alloc]at *;omega,hb.2⟩)
    have hb7:=Hd (hb6.grown hg hb6.size (fun g e=>(hvS _ e).1))
    clear h1 hg hvS hlf6 hb6 hn6 hl6 hd2 hd3
    go_wp2
    go_roundw
    case rel=>exact⟨k+1,hk1.out,by go_num,h7,hb7⟩
    case measure=>have:=hk1.out;simp[intOf];omega
  ·have hki:¬(k:Int)<(l.length:Int):=by omega
   obtain rfl:k=l.length:=by omega
   have hlf2:=hlf.out
   rw[List.take_length]at hlf2
   obtain⟨a3,c3,rfl,-⟩:=hlf2.form
   replace hlf2:=Hd hlf2
   clear hlf
   go_wp2
   go_ret
   exact⟨a3,c3,rfl,hb.out,hlf2.out⟩
open hyp (RowA TextsA CellsStay stay_of_below textsV textsV_length own_row OW)
def shK(A B:List ByteArray):Nat→List (Nat×Nat)
 |0=>[]
 |k+1=>shK A B k++(match B[k]? with|some v=>if v∈(B.take k).foldl addN A then[(((B.take k).foldl addN A).idxOf v,k)] else[]|none=>[])
def pairsV(l:List (Nat×Nat)):List Value:=l.flatMap fun p=>[.int .i64 (p.1:Int),.int .i64 (p.2:Int)]
theorem pairsV_snoc(l:List (Nat×Nat))(i k:Nat):pairsV (l++[(i,k)])=pairsV l++[.int .i64 (i:Int),.int .i64 (k:Int)]:=by
 unfold pairsV
 rw[List.flatMap_append]
 simp
theorem shK_in{A B:List ByteArray}{k:Nat}(h:k<B.length)(hm:B[k]∈(B.take k).foldl addN A):shK A B (k+1)=shK A B k++[(((B.take k).foldl addN A).idxOf B[k],k)]:=by
 rw[shK,List.getElem?_eq_getElem h]
 simp only[if_pos hm]
theorem shK_out{A B:List ByteArray}{k:Nat}(h:k<B.length)(hm:B[k]∉(B.take k).foldl addN A):shK A B (k+1)=shK A B k:=by
 rw[shK,List.getElem?_eq_getElem h]
 simp only[if_neg hm,List.append_nil]
theorem shK_len(A B:List ByteArray):∀k,(shK A B k).length≤k
 |0=>Nat.le_refl _
 |k+1=>by
  have:=shK_len A B k
  rw[shK,List.length_append]
  split
  ·split<;>simp<;>omega
  ·simp;omega
theorem infoPair:(Tryz.prog.info? 86).map (fun i=>(i.zero,i.size,i.bytes))=some (some (.agg #[.int .i64 0,.int .i64 0]),2,16):=by kernel_rfl
theorem infoBothJ:(Tryz.prog.info? 55).map (·.size)=some 3:=by kernel_rfl
theorem news_b2(w:World)(x y:Value)(t:TypeId):∀j u,[x,y][j]? = some u→(w.alloc (.cells #[x,y] t)).cell? ((⟨w.heap.size,0,none⟩:Addr).add j)=some u:=by
 intro j u hu
 rw[Go.WideShapes.add_plain,Nat.zero_add]
 refine(Blk.new w #[x,y] t).cell j ?_
 match j,hu with
 |0,hu=>exact hu
 |1,hu=>exact hu
 |j+2,hu=>simp at hu
structure TJ(w0 w:World)(ta tb:Array Value)(pb:Nat)(vv va vs:Value)(ns:List ByteArray)(at_:List Nat)(sh:List (Nat×Nat)):Prop where
 below:Below w0.heap.size w0 w
 ca:Blk w w0.heap.size ta 25
 cb:Blk w (w0.heap.size+1) tb 25
 b0:Blk w (w0.heap.size+2) #[.slice none 0 0,.slice none 0 0,.slice none 0 0] 55
 b1:Blk w pb #[vv,va,vs] 55
 names:w.ownsRow w0.heap.size 9 1 vv ns.length (textsV ns)
 places:w.ownsRow w0.heap.size 3 1 va at_.length (numsN at_)
 pairs:w.ownsRow w0.heap.size 86 2 vs sh.length (pairsV sh)
 lt:w0.heap.size+2<pb
theorem TJ.alloc{w0 w:World}{ta tb:Array Value}{pb:Nat}{vv va vs:Value}{ns:List ByteArray}{at_:List Nat}{sh:List (Nat×Nat)}(h:TJ w0 w ta tb pb vv va vs ns at_ sh)(o:Obj):TJ w0 (w.alloc o) ta tb pb vv va vs ns at_ sh:=
 ⟨h.below.alloc h.below.size o,h.ca.alloc o,h.cb.alloc o,h.b0.alloc o,h.b1.alloc o,h.names.alloc o,h.places.alloc o,h.pairs.alloc o,h.lt⟩
theorem TJ.name{w0 w w':World}{ta tb:Array Value}{pb:Nat}{vv va vs vv':Value}{ns:List ByteArray}{at_:List Nat}{sh:List (Nat×Nat)}(h:TJ w0 w ta tb pb vv va vs ns at_ sh)(x:ByteArray)(h1:w'.ownsRow w0.heap.size 9 1 vv' (ns.length+1) (textsV ns++[.string x]))(hg:w.grownBy w' vv.ownBlock):
 TJ w0 (w'.setCell ⟨pb,0,none⟩ vv') ta tb pb vv' va vs (ns++[x]) at_ sh:=by
 have ea:Blk w' w0.heap.size ta 25:=(hg.block _ h.ca.lt (fun e=>own_ne h.names h.ca (by decide) e.symm)).trans h.ca
 have eb:Blk w' (w0.heap.size+1) tb 25:=(hg.block _ h.cb.lt (fun e=>own_ne h.names h.cb (by decide) e.symm)).trans h.cb
 have e0:Blk w' (w0.heap.size+2) _ _:=(hg.block _ h.b0.lt (fun e=>own_ne h.names h.b0 (by decide) e.symm)).trans h.b0
 have e1:Blk w' pb #[vv,va,vs] 55:=(hg.block _ h.b1.lt (fun e=>own_ne h.names h.b1 (by decide) e.symm)).trans h.b1
 have hb:=h.below.grown hg h.below.size (fun k hk=>(h.names.lt k hk).1)
 have hlt:=h.lt
 have e2:=h.places.kept hg (own_two h.places h.names (by decide))
 have e3:=h.pairs.kept hg (own_two h.pairs h.names (by decide))
 refine⟨hb.setCell (p:=⟨pb,0,none⟩) (by show w0.heap.size≤pb;omega) vv',ea.set_other ⟨pb,0,none⟩ (by simp;omega) vv',eb.set_other ⟨pb,0,none⟩ (by simp;omega) vv',e0.set_other ⟨pb,0,none⟩ (by simp;omega) vv',e1.set 0 vv',?_,own_set e2 e1 (by decide) 0 vv',own_set e3 e1 (by decide) 0 vv',h.lt⟩
 rw[List.length_append]
 have:=own_set h1 e1 (by decide) 0 vv'
 simpa[textsV]using this
theorem TJ.place{w0 w w':World}{ta tb:Array Value}{pb:Nat}{vv va vs va':Value}{ns:List ByteArray}{at_:List Nat}{sh:List (Nat×Nat)}(h:TJ w0 w ta tb pb vv va vs ns at_ sh)(x:Nat)(h1:w'.ownsRow w0.heap.size 3 1 va' (at_.length+1) (numsN at_++[.int .i64 (x:Int)]))(hg:w.grownBy w' va.ownBlock):
 TJ w0 (w'.setCell ⟨pb,1,none⟩ va') ta tb pb vv va' vs ns (at_++[x]) sh:=by
 have ea:Blk w' w0.heap.size ta 25:=(hg.block _ h.ca.lt (fun e=>own_ne h.places h.ca (by decide) e.symm)).trans h.ca
 have eb:Blk w' (w0.heap.size+1) tb 25:=(hg.block _ h.cb.lt (fun e=>own_ne h.places h.cb (by decide) e.symm)).trans h.cb
 have e0:Blk w' (w0.heap.size+2) _ _:=(hg.block _ h.b0.lt (fun e=>own_ne h.places h.b0 (by decide) e.symm)).trans h.b0
 have e1:Blk w' pb #[vv,va,vs] 55:=(hg.block _ h.b1.lt (fun e=>own_ne h.places h.b1 (by decide) e.symm)).trans h.b1
 have hb:=h.below.grown hg h.below.size (fun k hk=>(h.places.lt k hk).1)
 have hlt:=h.lt
 have e2:=h.names.kept hg (own_two h.names h.places (by decide))
 have e3:=h.pairs.kept hg (own_two h.pairs h.places (by decide))
 refine⟨hb.setCell (p:=⟨pb,1,none⟩) (by show w0.heap.size≤pb;omega) va',ea.set_other ⟨pb,1,none⟩ (by simp;omega) va',eb.set_other ⟨pb,1,none⟩ (by simp;omega) va',e0.set_other ⟨pb,1,none⟩ (by simp;omega) va',e1.set 1 va',own_set e2 e1 (by decide) 1 va',?_,own_set e3 e1 (by decide) 1 va',h.lt⟩
 rw[List.length_append]
 have:=own_set h1 e1 (by decide) 1 va'
 simpa[numsN]using this
theorem TJ.pair{w0 w w':World}{ta tb:Array Value}{pb:Nat}{vv va vs vs':Value}{ns:List ByteArray}{at_:List Nat}{sh:List (Nat×Nat)}(h:TJ w0 w ta tb pb vv va vs ns at_ sh)(i k:Nat)(h1:w'.ownsRow w0.heap.size 86 2 vs' (sh.length+1) (pairsV sh++[.int .i64 (i:Int),.int .i64 (k:Int)]))(hg:w.grownBy w' vs.ownBlock):
 TJ w0 (w'.setCell ⟨pb,2,none⟩ vs') ta tb pb vv va vs' ns at_ (sh++[(i,k)]):=by
 have ea:Blk w' w0.heap.size ta 25:=(hg.block _ h.ca.lt (fun e=>own_ne h.pairs h.ca (by decide) e.symm)).trans h.ca
 have eb:Blk w' (w0.heap.size+1) tb 25:=(hg.block _ h.cb.lt (fun e=>own_ne h.pairs h.cb (by decide) e.symm)).trans h.cb
 have e0:Blk w' (w0.heap.size+2) _ _:=(hg.block _ h.b0.lt (fun e=>own_ne h.pairs h.b0 (by decide) e.symm)).trans h.b0
 have e1:Blk w' pb #[vv,va,vs] 55:=(hg.block _ h.b1.lt (fun e=>own_ne h.pairs h.b1 (by decide) e.symm)).trans h.b1
 have hb:=h.below.grown hg h.below.size (fun k hk=>(h.pairs.lt k hk).1)
 have hlt:=h.lt
 have e2:=h.names.kept hg (own_two h.names h.pairs (by decide))
 have e3:=h.places.kept hg (own_two h.places h.pairs (by decide))
 refine⟨hb.setCell (p:=⟨pb,2,none⟩) (by show w0.heap.size≤pb;omega) vs',ea.set_other ⟨pb,2,none⟩ (by simp;omega) vs',eb.set_other ⟨pb,2,none⟩ (by simp;omega) vs',e0.set_other ⟨pb,2,none⟩ (by simp;omega) vs',e1.set 2 vs',own_set e2 e1 (by decide) 2 vs',own_set e3 e1 (by decide) 2 vs',?_,h.lt⟩
 rw[List.length_append,pairsV_snoc]
 exact own_set h1 e1 (by decide) 2 vs'
def JBoth(w0 w:World)(v:Value)(a b:List ByteArray):Prop:=
 ∃vv va vs,v=.agg #[vv,va,vs]∧Below w0.heap.size w0 w∧w.ownsRow w0.heap.size 9 1 vv (b.foldl addN a).length (textsV (b.foldl addN a))∧w.ownsRow w0.heap.size 3 1 va (atN a b).length (numsN (atN a b))∧w.ownsRow w0.heap.size 86 2 vs (shK a b b.length).length (pairsV (shK a b b.length))
theorem TJ.stay{w0 w w':World}{ta tb:Array Value}{pb:Nat}{vv va vs:Value}{ns:List ByteArray}{at_:List Nat}{sh:List (Nat×Nat)}(h:TJ w0 w ta tb pb vv va vs ns at_ sh)(hb:Below w.heap.size w w'):TJ w0 w' ta tb pb vv va vs ns at_ sh:=
 ⟨h.below.trans (hb.mono h.below.size),(hb.block _ h.ca.lt).trans h.ca,(hb.block _ h.cb.lt).trans h.cb,(hb.block _ h.b0.lt).trans h.b0,(hb.block _ h.b1.lt).trans h.b1,own_stay h.names fun g hg=>hb.block g (h.names.lt g hg).2,own_stay h.places fun g hg=>hb.block g (h.places.lt g hg).2,own_stay h.pairs fun g hg=>hb.block g (h.pairs.lt g hg).2,h.lt⟩
def JSeen(w0 V:World)(ta tb:Array Value)(pb:Nat)(vv va vs:Value):Prop:=Blk V w0.heap.size ta 25∧Blk V (w0.heap.size+1) tb 25∧Blk V pb #[vv,va,vs] 55
theorem TJ.seen{w0 w:World}{ta tb:Array Value}{pb:Nat}{vv va vs:Value}{ns:List ByteArray}{at_:List Nat}{sh:List (Nat×Nat)}(h:TJ w0 w ta tb pb vv va vs ns at_ sh):JSeen w0 w ta tb pb vv va vs:=⟨h.ca,h.cb,h.b1⟩
theorem TJ.done{w0 w:World}{ta tb:Array Value}{pb:Nat}{vv va vs:Value}{a b:List ByteArray}(h:TJ w0 w ta tb pb vv va vs (b.foldl addN a) (atN a b) (shK a b b.length)):
 Blk (((w.setCell ⟨w0.heap.size+2,0,none⟩ vv).setCell ⟨w0.heap.size+2,1,none⟩ va).setCell ⟨w0.heap.size+2,2,none⟩ vs) (w0.heap.size+2) #[vv,va,vs] 55 ∧
  JBoth w0 (((w.setCell ⟨w0.heap.size+2,0,none⟩ vv).setCell ⟨w0.heap.size+2,1,none⟩ va).setCell ⟨w0.heap.size+2,2,none⟩ vs) (.agg #[vv,va,vs]) a b ∧
  JSeen w0 (((w.setCell ⟨w0.heap.size+2,0,none⟩ vv).setCell ⟨w0.heap.size+2,1,none⟩ va).setCell ⟨w0.heap.size+2,2,none⟩ vs) ta tb pb vv va vs:=by
 have q0:=h.b0.set 0 vv
 have q1:=q0.set 1 va
 have q2:=q1.set 2 vs
 have hlt:=h.lt
 refine⟨q2,⟨vv,va,vs,rfl,((h.below.setCell (p:=⟨w0.heap.size+2,0,none⟩) (Nat.le_add_right _ _) vv).setCell (p:=⟨w0.heap.size+2,1,none⟩) (Nat.le_add_right _ _) va).setCell (p:=⟨w0.heap.size+2,2,none⟩) (Nat.le_add_right _ _) vs,
  own_set (own_set (own_set h.names h.b0 (by decide) 0 vv) q0 (by decide) 1 va) q1 (by decide) 2 vs,own_set (own_set (own_set h.places h.b0 (by decide) 0 vv) q0 (by decide) 1 va) q1 (by decide) 2 vs,own_set (own_set (own_set h.pairs h.b0 (by decide) 0 vv) q0 (by decide) 1 va) q1 (by decide) 2 vs⟩,?_,?_,?_⟩
 ·exact((h.ca.set_other ⟨w0.heap.size+2,0,none⟩ (by simp) vv).set_other ⟨w0.heap.size+2,1,none⟩ (by simp) va).set_other ⟨w0.heap.size+2,2,none⟩ (by simp) vs
 ·exact((h.cb.set_other ⟨w0.heap.size+2,0,none⟩ (by simp) vv).set_other ⟨w0.heap.size+2,1,none⟩ (by simp) va).set_other ⟨w0.heap.size+2,2,none⟩ (by simp) vs
 ·exact((h.b1.set_other ⟨w0.heap.size+2,0,none⟩ (by simp;omega) vv).set_other ⟨w0.heap.size+2,1,none⟩ (by simp;omega) va).set_other ⟨w0.heap.size+2,2,none⟩ (by simp;omega) vs
def jokZ(A B:Tab):Bool:=mayT A&&(mayT B&&decide ((B.vars.foldl addN A.vars).length≤64))
def comN(A B:List ByteArray):List ByteArray:=B.filter fun x=>decide (x∈A)
theorem mem_com{A B:List ByteArray}{x:ByteArray}:x∈comN A B↔x∈B∧x∈A:=by
 unfold comN
 rw[List.mem_filter,decide_eq_true_eq]
theorem com_len(A B:List ByteArray):(comN A B).length≤B.length:=List.length_filter_le _ _
theorem shK_com{A B:List ByteArray}(hB:B.Nodup):∀k,k≤B.length→shK A B k=(comN A (B.take k)).map fun x=>(A.idxOf x,B.idxOf x)
 |0,_=>by simp[shK,comN]
 | k + 1, hk => by
  have hlt:k<B.length:=by omega
  have ih:=shK_com hB k (by omega) (A:=A)
  have ht:comN A (B.take (k+1))=comN A (B.take k)++comN A [B[k]]:=by
   unfold comN
   rw[List.take_succ_eq_append_getElem hlt,List.filter_append]
  rw[ht,List.map_append]
  by_cases hm:B[k]∈A
  ·have hin:B[k]∈(B.take k).foldl addN A:=(mem_foldN _ _).2 (.inl hm)
   rw[shK_in hlt hin,ih,idx_fold _ _ hm]
   congr 1
   unfold comN
   rw[List.filter_cons_of_pos (by simpa using hm),List.filter_nil,List.map_singleton,hB.idxOf_getElem]
  ·have hin:B[k]∉(B.take k).foldl addN A:=fun h=>by
    rcases(mem_foldN _ _).1 h with h1|h1
    ·exact hm h1
    ·exact not_before hB hlt h1
   rw[shK_out hlt hin,ih]
   unfold comN
   rw[List.filter_cons_of_neg (by simpa using hm),List.filter_nil,List.map_nil,List.append_nil]
theorem sh_all{A B:List ByteArray}(hB:B.Nodup):shK A B B.length=(comN A B).map fun x=>(A.idxOf x,B.idxOf x):=by
 rw[shK_com hB _ (Nat.le_refl _),List.take_length]
def okX(A B:List ByteArray)(r s:List V)(k:Nat):Prop:=∀x∈(comN A B).take k,okC (cellF A r x) (cellF B s x)=true
def shX(A B:List ByteArray)(r s:List V)(k:Nat):Bool:=((comN A B).take k).any fun x=>!isN (cellF A r x)&&!isN (cellF B s x)
theorem okX_zero(A B:List ByteArray)(r s:List V):okX A B r s 0:=fun x hx=>by simp at hx
theorem okX_step{A B:List ByteArray}{r s:List V}{k:Nat}(h:k<(comN A B).length):okX A B r s (k+1)↔okX A B r s k∧okC (cellF A r (comN A B)[k]) (cellF B s (comN A B)[k])=true:=by
 unfold okX
 rw[List.take_succ_eq_append_getElem h]
 constructor
 ·exact fun g=>⟨fun x hx=>g x (List.mem_append_left _ hx),g _ (List.mem_append_right _ (by simp))⟩
 ·rintro⟨g1,g2⟩ x hx
  rcases List.mem_append.1 hx with hx|hx
  ·exact g1 x hx
  ·obtain rfl:=List.mem_singleton.1 hx
   exact g2
theorem shX_step{A B:List ByteArray}{r s:List V}{k:Nat}(h:k<(comN A B).length):shX A B r s (k+1)=(shX A B r s k||(!isN (cellF A r (comN A B)[k])&&!isN (cellF B s (comN A B)[k]))):=by
 unfold shX
 rw[List.take_succ_eq_append_getElem h,List.any_append]
 simp
theorem okX_end(A B:List ByteArray)(r s:List V):okX A B r s (comN A B).length↔compat A B r s=true:=by
 unfold okX
 rw[List.take_length,compat_iff]
 exact⟨fun h x h1 h2=>h x (mem_com.2 ⟨h2,h1⟩),fun h x hx=>h x (mem_com.1 hx).2 (mem_com.1 hx).1⟩
theorem shX_end(A B:List ByteArray)(r s:List V):shX A B r s (comN A B).length=shared A B r s:=by
 unfold shX shared comN
 rw[List.take_length,List.any_filter]
theorem okX_no{A B:List ByteArray}{r s:List V}{k:Nat}(h:k<(comN A B).length)(hf:okC (cellF A r (comN A B)[k]) (cellF B s (comN A B)[k])=false):compat A B r s=false:=by
 rw[Bool.eq_false_iff]
 intro hc
 have h1:=(okX_end A B r s).2 hc _ (by rw[List.take_length];exact List.getElem_mem h)
 rw[h1]at hf
 cases hf
theorem meet_set{A B:List ByteArray}{r s:List V}(hA:A.Nodup)(hB:B.Nodup)(hl:s.length=B.length)(hr:rowB A.length r=true)(hsm:∀v∈s,mayV v=true)(hc:compat A B r s=true){k:Nat}(h:k<B.length)(hn:isN (s[k]'(by omega))=false):
 outK A B r s (k+1)=(outK A B r s k).set ((B.foldl addN A).idxOf B[k]) (s[k]'(by omega)):=by
 rw[step_out hA hB hl hr h]
 congr 1
 by_cases h1:isN (cellF A r B[k])=true
 ·rw[orN_of h1]
 ·have h1:=Bool.eq_false_iff.2 h1
  rw[orN_not h1]
  by_cases hin:B[k]∈A
  ·have h2:=(compat_iff A B r s).1 hc B[k] hin (List.getElem_mem h)
   rw[step_cell hB hl h]at h2
   unfold okC at h2
   rw[h1,hn]at h2
   exact(sameP_iff _ _).1 (by simpa using h2)
  ·have hrl:r.length=A.length:=by
    unfold rowB at hr
    rw[Bool.and_eq_true,decide_eq_true_eq]at hr
    exact hr.1
   rw[cell_out hrl hin]at h1
   cases h1
theorem meet_skip{A B:List ByteArray}{r s:List V}(hA:A.Nodup)(hB:B.Nodup)(hl:s.length=B.length)(hr:rowB A.length r=true)(hsm:∀v∈s,mayV v=true){k:Nat}(h:k<B.length)(hn:isN (s[k]'(by omega))=true):
 outK A B r s (k+1)=outK A B r s k:=by
 rw[step_out hA hB hl hr h,orN_isN (cell_may hr _) (hsm _ (List.getElem_mem _)) hn,←step_get hA hB hr h]
 exact List.set_getElem_self _
def PairR(w:World)(v:Value)(l:List (Nat×Nat)):Prop:=
 ∃a c,v=.slice a l.length c∧∀j (hj:j<l.length),∃b off,a=some ⟨b,off,none⟩∧b<w.heap.size∧w.cell? ⟨b,off+j * 2,none⟩=some (.int .i64 (l[j].1:Int))∧w.cell? ⟨b,off+j * 2+1,none⟩=some (.int .i64 (l[j].2:Int))
theorem PairR.stay{w w':World}{v:Value}{l:List (Nat×Nat)}(h:PairR w v l)(hb:Below w.heap.size w w'):PairR w' v l:=by
 obtain⟨a,c,e,h1⟩:=h
 refine⟨a,c,e,fun j hj=>?_⟩
 obtain⟨b,off,h2,h3,h4,h5⟩:=h1 j hj
 exact⟨b,off,h2,Nat.lt_of_lt_of_le h3 hb.size,sB hb h4,sB hb h5⟩
theorem pairsV_at:∀(l:List (Nat×Nat)) (j:Nat) (hj:j<l.length),(pairsV l)[j * 2]? = some (.int .i64 (l[j].1:Int))∧(pairsV l)[j * 2+1]? = some (.int .i64 (l[j].2:Int))
 |[],j,hj=>by simp at hj
 |p::l,0,_=>by unfold pairsV;rw[List.flatMap_cons];simp
 |p::l,j+1,hj=>by
  have:=pairsV_at l j (by simpa using hj)
  unfold pairsV at this ⊢
  rw[List.flatMap_cons]
  have e1:(j+1) * 2=j * 2+2:=by omega
  rw[e1]
  simpa using this
theorem pair_of{w:World}{B:Nat}{v:Value}{l:List (Nat×Nat)}(h:w.ownsRow B 86 2 v l.length (pairsV l)):PairR w v l:=by
 rcases h.2 with⟨e,hn⟩|⟨g,cap,cur,e,_⟩
 ·have:l=[]:=List.eq_nil_of_length_eq_zero hn
  subst this
  exact⟨none,0,e,fun j hj=>by simp at hj⟩
 ·subst e
  refine⟨some ⟨g,0,none⟩,cap,rfl,fun j hj=>⟨g,0,rfl,(h.lt g rfl).2,?_,?_⟩⟩
  ·have:=h.cells (g:=g) rfl (j * 2) _ (pairsV_at l j hj).1
   rwa [Go.WideShapes.add_plain]at this
  ·have:=h.cells (g:=g) rfl (j * 2+1) _ (pairsV_at l j hj).2
   rwa [Go.WideShapes.add_plain]at this
theorem below_setRow{B:Nat}{a w:World}(h:Below B a w){g:Nat}(hg:B≤g)(cs:Array Value):Below B a (w.setRow g cs):=
 ⟨h.os,h.tape,h.output,by simpa using h.size,fun k hk=>(_root_.Go.setRow_other w g k cs (by omega)).trans (h.block k hk)⟩
theorem mid_get{cs:List Value}{o:Nat}{vs:List Value}(ho:o+vs.length≤cs.length)(m:Nat):(cs.take o++vs++cs.drop (o+vs.length))[m]? = if m<o then cs[m]? else if m<o+vs.length then vs[m-o]? else cs[m]?:=by
 have hl:(cs.take o).length=o:=by rw[List.length_take];omega
 by_cases h1:m<o
 ·rw[if_pos h1,List.append_assoc,List.getElem?_append_left (by omega),List.getElem?_take,if_pos h1]
 ·rw[if_neg h1,List.append_assoc,List.getElem?_append_right (by omega),hl]
  by_cases h2:m<o+vs.length
  ·rw[if_pos h2,List.getElem?_append_left (by omega)]
  ·rw[if_neg h2,List.getElem?_append_right (by omega),List.getElem?_drop]
   congr 1
   omega
theorem wp_storeJ{o:Oper}{a:Act}{w0 w:World}{K:Act→World→Prop}{Q:Exit→Act→World→Prop}(x y:Operand)(ho:o.op=.store 34 x y)
 {N g:Nat}{l:List V}(hJ:JO w0 w N g l)(i:Nat)(hi:i<l.length)(k:Int)(b:Bool)(n:Int)(t xx:ByteArray)(l1:List V)(s:Value)(hok:okV N (.mk k b n t xx l1))(hl1:LA w0 N s l1)(h1c:s.oneCell'=true)
 (hx:a.eval x=.pointer (some ⟨g,i * 6,none⟩))(hy:a.eval y=.agg #[.int .i64 k,.bool b,.int .i64 n,.string t,.string xx,s])
 (hK:∀cs:Array Value,JO w0 (w.setRow g cs) N g (l.set i (.mk k b n t xx l1))→K (a.put o.dst undef) (w.setRow g cs)):o.wp Tryz.prog a w K Q:=by
 obtain⟨cs,h1,h2,h3⟩:=hJ
 obtain⟨vs,hvs⟩:∃vs,vs=sixE k b n t xx s:=⟨_,rfl⟩
 have hvl:vs.length=6:=by rw[hvs];rfl
 have hone:∀v∈vs,v.oneCell'=true:=fun v hv=>by
  rw[hvs]at hv
  simp[sixE]at hv
  rcases hv with rfl|rfl|rfl|rfl|rfl|rfl<;>first|rfl|exact h1c
 have hcl:cs.toList.length=6 * l.length:=by rw[Array.length_toList,h2]
 have hfit:i * 6+6≤cs.toList.length:=by omega
 have hst:=run_storeCells_at Tryz.prog g (i * 6) 34 vs 0 cs w h1 (by rw[hvl];simpa using hfit) hone
 simp only[Nat.add_zero]at hst
 have hrun:(storeVar 34 ⟨g,i * 6,none⟩ (.agg #[.int .i64 k,.bool b,.int .i64 n,.string t,.string xx,s])).run Tryz.prog w=.ok () (w.setRow g (cs.toList.take (i * 6)++vs++cs.toList.drop (i * 6+vs.length)).toArray):=by
  rw[←hst]
  have h6:=infoV6
  cases hq:Tryz.prog.info? 34 with
  |none=>rw[hq]at h6;cases h6
  |some i0=>
   rw[hq]at h6
   have hs:i0.size=6:=by simpa using h6
   simp[storeVar,sizeOf,typeInfo,hq,Value.cells,hs,hvs,sixE]
 have hfin:=hK (cs.toList.take (i * 6)++vs++cs.toList.drop (i * 6+vs.length)).toArray ⟨_,h1.setRow,by
  rw[List.size_toArray,List.length_append,List.length_append,List.length_take,List.length_drop,List.length_set,hvl,hcl]
  omega,fun j hj=>by
  rw[List.length_set]at hj
  have hget:=fun m=>mid_get (cs:=cs.toList) (o:=i * 6) (vs:=vs) (by rw[hvl];exact hfit) m
  by_cases he:i=j
  ·subst he
   refine⟨k,b,n,t,xx,l1,s,by simp,hok,hl1,fun m hm=>?_⟩
   rw[List.getElem?_toArray,hget,if_neg (by omega),if_pos (by rw[hvl];omega),hvs,show 6 * i+m-i * 6=m by omega]
  ·obtain⟨k2,b2,n2,t2,x2,l2,s2,e,ho2,hla,hc⟩:=h3 j hj
   refine⟨k2,b2,n2,t2,x2,l2,s2,by rw[List.getElem_set_ne he];exact e,ho2,hla,fun m hm=>?_⟩
   rw[←hc m hm,List.getElem?_toArray,hget]
   rw[hvl]
   by_cases h5:6 * j+m<i * 6
   ·rw[if_pos h5,Array.getElem?_toList]
   ·rw[if_neg h5,if_neg (by omega),Array.getElem?_toList]⟩
 unfold Oper.wp execOp
 simp only[ho,hx,hy,Instr.storeAt,Instr.sureAddr,Sem.run_bind,Sem.run_pure,Result.andThen_ok,hrun]
 exact hfin
theorem meet_any (N : Nat) (hN : N ≤ 1048576) (w : World) (A B : List ByteArray) (r s : List V) (an : Option Addr) (n cn : Nat) (va vs u1 u2 : Value) (hA : A.Nodup) (hB : B.Nodup) (hr : rowB A.length r = true) (hs : s.length = B.length) (hsm : ∀ v ∈ s, mayV v = true)
 (hn:(B.foldl addN A).length=n)(hnN:n≤N)(hva:RowA w w.heap.size va (numsN (atN A B)))(hvs:PairR w vs (shK A B B.length))(h1:LA w N u1 r)(h2:LA w N u2 s)(hB9:B.length≤1048576):
 Calls Tryz.prog 44 #[.agg #[.slice an n cn,va,vs],u1,u2] w fun e w'=>JdP w N n A B r s e w':=by
 obtain⟨ao1,c1,rfl⟩:=h1.form6
 obtain⟨ao2,c2,rfl⟩:=h2.form6
 obtain⟨ao3,c3,rfl,-,hat⟩:=hva.form
 obtain⟨ao4,c4,rfl,hpr⟩:=hvs
 have hrl:r.length=A.length:=by
  unfold rowB at hr
  simp only[Bool.and_eq_true,decide_eq_true_eq]at hr
  exact hr.1
 have hAn:A.length≤n:=by
  obtain⟨m,hm⟩:=foldN_prefix B A
  rw[←hn,hm,List.length_append]
  omega
 have hsl:s.length≤1048576:=by have:=(h2.elems _ _ _ rfl).1;omega
 have hatl:(numsN (atN A B)).length=s.length:=by simp[atN,hs]
 replace hat:∀j (hj:j<B.length),∃b off,ao3=some ⟨b,off,none⟩∧b<w.heap.size∧w.cell? ⟨b,off+j,none⟩=some (.int .i64 (((B.foldl addN A).idxOf B[j]:Nat):Int)):=fun j hj=>by
  obtain⟨b,off,e1,e2,e3⟩:=hat j (by rw[hatl,hs];exact hj)
  exact⟨b,off,e1,e2,by rw[e3,at_getE A B j _ hj]⟩
 rw[hatl]
 have hsh:=sh_all hB (A:=A)
 have hcl:=com_len A B
 have hshl:(shK A B B.length).length=(comN A B).length:=by rw[hsh,List.length_map]
 have hpr2:∀j (hj:j<(comN A B).length),∃b off,ao4=some ⟨b,off,none⟩∧b<w.heap.size∧w.cell? ⟨b,off+j * 2,none⟩=some (.int .i64 ((A.idxOf (comN A B)[j]:Nat):Int))∧w.cell? ⟨b,off+j * 2+1,none⟩=some (.int .i64 ((B.idxOf (comN A B)[j]:Nat):Int)):=fun j hj=>by
  obtain⟨b,off,e1,e2,e3,e4⟩:=hpr j (by rw[hshl];exact hj)
  have e5:(shK A B B.length)[j]'(by rw[hshl];exact hj)=(A.idxOf (comN A B)[j],B.idxOf (comN A B)[j]):=by simp[hsh]
  rw[e5]at e3 e4
  exact⟨b,off,e1,e2,e3,e4⟩
 rw[hshl]
 obtain⟨xl,hxl⟩:∃xl,(comN A B).length=xl:=⟨_,rfl⟩
 rw[hxl]at hcl
 have hxl2:=hxl
 have hb0:=(Below.refl w.heap.size w).alloc (Nat.le_refl _) (.cells #[.slice an n cn,.slice ao3 s.length c3,.slice ao4 xl c4] 55)
 have hp0:=Blk.new w #[.slice an n cn,.slice ao3 s.length c3,.slice ao4 xl c4] 55
 rw[hxl2]
 have hs1:=World.size_alloc w (.cells #[.slice an n cn,.slice ao3 s.length c3,.slice ao4 xl c4] 55)
 replace hb0:=Hd hb0
 replace hp0:=Hd hp0
 replace hat:=Hd hat
 replace hpr2:=Hd hpr2
 replace h1:=Hd h1
 replace h2:=Hd h2
 replace hr:=Hd hr
 replace hsm:=Hd hsm
 replace hs:=Hd hs
 replace hrl:=Hd hrl
 replace hn:=Hd hn
 replace hxl:=Hd hxl
 replace hsh:=Hd hsh
 replace hshl:=Hd hshl
 clear hpr hatl hva hxl2
 go_enter Tryz.func44,Tryz.ntmps44
 go_wp2
 obtain⟨w1,hw1⟩:∃w1,w.alloc (.cells #[.slice an n cn,.slice ao3 s.length c3,.slice ao4 xl c4] 55)=w1:=⟨_,rfl⟩
 rw[hw1]at hb0 hp0 hs1
 try rw[hw1]
 replace hw1:=Hd hw1
 replace hs1:=Hd hs1
 have hsh0:shX A B r s 0=false:=by simp[shX]
 go_loopw [7,18] (fun bd i wr=>∃k:Nat,k≤xl∧i=.int .i64 (k:Int)∧bd=.bool (shX A B r s k)∧Hid (okX A B r s k)∧Hid (Below w1.heap.size w1 wr)) (fun _ i _=>xl-(intOf i).toNat)
 case atStart=>exact⟨0,Nat.zero_le _,rfl,by rw[hsh0],Hd (okX_zero _ _ _ _),Hd (Below.refl _ _)⟩
 case round =>
  clear hsh0
  obtain⟨k,hk,rfl,rfl,hok,hb⟩:=hrel
  by_cases hlt:k<xl
  ·as_aux_lemma=>
    have hki:(k:Int)<(xl:Int):=by omega
    have hkx:k<(comN A B).length:=by rw[hxl.out];exact hlt
    have hk1:=Hd (show k+1≤xl from hlt)
    obtain⟨gb,off,rfl,hgb,hca,hcb⟩:=hpr2.out k hkx
    have hsx:=shX_step (r:=r) (s:=s) hkx
    have hox:=okX_step (r:=r) (s:=s) hkx
    have hno:=okX_no (r:=r) (s:=s) hkx
    have hmem:=mem_com.1 (List.getElem_mem hkx)
    obtain⟨x,hx⟩:∃x,(comN A B)[k]=x:=⟨_,rfl⟩
    rw[hx]at hca hcb hsx hox hno hmem
    obtain⟨hiA,hgA⟩:=cell_at hrl.out hmem.2
    obtain⟨hiB,hgB⟩:=cell_at hs.out hmem.1
    have hbw:=hb0.out.trans (hb.out.mono hb0.out.size)
    replace hca:=sB hbw hca
    replace hcb:=sB hbw hcb
    obtain⟨bA,oA,k1,bo1,n1,tA,xA,l1,aoA,capA,rfl,heA,hrA,hokA,hslA⟩:=la_at (h1.out.stay hbw) (A.idxOf x) hiA
    obtain⟨bB,oB,k2,bo2,n2,tB,xB,l2,aoB,capB,rfl,heB,hrB,hokB,hslB⟩:=la_at (h2.out.stay hbw) (B.idxOf x) hiB
    have hcA:cellF A r x=.mk k1 bo1 n1 tA xA l1:=hgA.symm.trans heA
    have hcB:cellF B s x=.mk k2 bo2 n2 tB xB l2:=hgB.symm.trans heB
    rw[hcA,hcB]at hsx hox hno
    obtain⟨iA,hiAe⟩:∃iA,A.idxOf x=iA:=⟨_,rfl⟩
    obtain⟨iB,hiBe⟩:∃iB,B.idxOf x=iB:=⟨_,rfl⟩
    rw[hiAe]at hca hrA hiA
    rw[hiBe]at hcb hrB hiB
    have hiAi:(iA:Int)<(r.length:Int):=by omega
    have hiBi:(iB:Int)<(s.length:Int):=by omega
    have y3:=sB hb.out (hp0.out.cell 2 rfl)
    have hok1:=hok
    replace hsx:=Hd hsx
    replace hox:=Hd hox
    replace hno:=Hd hno
    clear hgA heA hgB heB hcA hcB hmem hx hgb hbw hiA hiB hokA hokB
    replace hslA:=Hd hslA
    replace hslB:=Hd hslB
    replace hiAe:=Hd hiAe
    replace hiBe:=Hd hiBe
    go_upto_region 4 with fail
    clear y3 hca hcb
    have hal:Below wr.heap.size wr (wr.alloc (.cells #[.int .i64 (iA:Int),.int .i64 (iB:Int)] 86)):=(Below.refl _ _).alloc (Nat.le_refl _) _
    have hq:=Blk.new wr #[.int .i64 (iA:Int),.int .i64 (iB:Int)] 86
    have hbv:=hb.out.trans (hal.mono hb.out.size)
    replace hrA:=hrA.below hal
    replace hrB:=hrB.below hal
    replace hslA:=Hd (hslA.out.stay hal)
    replace hslB:=Hd (hslB.out.stay hal)
    clear hal hb
    obtain⟨pq,hpq⟩:∃pq,wr.heap.size=pq:=⟨_,rfl⟩
    rw[hpq]at hq
    try rw[hpq]
    replace hpq:=Hd hpq
    generalize (wr.alloc (.cells #[.int .i64 (iA:Int),.int .i64 (iB:Int)] 86))=wv at *
    have hF:Hid (∀V,Below wv.heap.size wv V→V.cell? ⟨pq,0,none⟩=some (.int .i64 (iA:Int))∧V.cell? ⟨pq,1,none⟩=some (.int .i64 (iB:Int))∧Row6 V bA (oA+iA * 6) k1 bo1 n1 tA xA (.slice aoA l1.length capA)∧Row6 V bB (oB+iB * 6) k2 bo2 n2 tB xB (.slice aoB l2.length capB)):=Hd fun V h=>
     ⟨sB h (hq.cell 0 rfl),sB h (hq.cell 1 rfl),hrA.below h,hrB.below h⟩
    replace hbv:=Hd hbv
    clear hq hrA hrB
    go_cut [11,12] (fun v11 v12 wx=>∃(p q:Nat),v11=.pointer (some ⟨p,0,none⟩)∧v12=.pointer (some ⟨q,0,none⟩)∧Hid (Blk wx p #[.int .i64 k1,.bool bo1,.int .i64 n1,.string tA,.string xA,.slice aoA l1.length capA] 34)∧Hid (Blk wx q #[.int .i64 k2,.bool bo2,.int .i64 n2,.string tB,.string xB,.slice aoB l2.length capB] 34)∧Hid (Below wv.heap.size wv wx))
    case first=>
     as_aux_lemma=>
      have hbv:Below wv.heap.size wv wv:=Below.refl _ _
      have hd:Below wv.heap.size wv wv.drew:=below_drewN (Below.refl _ _) 1
      refine wp_region_held_drew (S:=fun V=>Below wv.heap.size wv V) (by kernel_rfl) hd (fun hS=>?_)
      generalize wv.drew=V0 at *
      refine tkS [0,1,2,3,4,5,6,7,8,9] ?_
      iterate 10
       refine tkC ?_ rfl (fun w' hS=>?_) hS ?_
       rotate_left
       ·
        obtain⟨q0,q1,qA,qB⟩:=hF.out _ hS;obtain⟨a0,a1,a2,a3,a4,a5⟩:=qA.six;obtain⟨b0,b1,b2,b3,b4,b5⟩:=qB.six
        go_simp
        try with_reducible rfl
      refine wpAnyH_ready (rs:=[10,11]) (by kernel_rfl) (by simp) ?_
      refine AllReadyH.cons rfl (fun K hK=>?_) (AllReadyH.cons rfl (fun K hK=>?_) AllReadyH.nil)
      ·clear hS
       go_simp
       go_wp2_with fail
       have hal1:Below V0.heap.size V0 (V0.alloc (.cells #[.int .i64 0,.bool false,.int .i64 0,.string ⟨#[]⟩,.string ⟨#[]⟩,.slice none 0 0] 34)):=(Below.refl _ _).alloc (Nat.le_refl _) _
       have hb1:=hd.trans (hal1.mono hd.size)
       have hds:=hd.size
       refine hKo hK hb1 (fun hS=>?_)
       clear hK K
       refine rdH 11 rfl (fun K hK=>?_)
       clear hS
       go_simp
       go_wp2_with fail
       have hb2:Below wv.heap.size wv ((V0.alloc (.cells #[.int .i64 0,.bool false,.int .i64 0,.string ⟨#[]⟩,.string ⟨#[]⟩,.slice none 0 0] 34)).alloc (.cells #[.int .i64 0,.bool false,.int .i64 0,.string ⟨#[]⟩,.string ⟨#[]⟩,.slice none 0 0] 34)):=hb1.alloc hb1.size _
       have hP:Blk ((V0.alloc (.cells #[.int .i64 0,.bool false,.int .i64 0,.string ⟨#[]⟩,.string ⟨#[]⟩,.slice none 0 0] 34)).alloc (.cells #[.int .i64 0,.bool false,.int .i64 0,.string ⟨#[]⟩,.string ⟨#[]⟩,.slice none 0 0] 34)) V0.heap.size #[.int .i64 0,.bool false,.int .i64 0,.string ⟨#[]⟩,.string ⟨#[]⟩,.slice none 0 0] 34:=(Blk.new V0 _ _).alloc _
       have hQ:Blk ((V0.alloc (.cells #[.int .i64 0,.bool false,.int .i64 0,.string ⟨#[]⟩,.string ⟨#[]⟩,.slice none 0 0] 34)).alloc (.cells #[.int .i64 0,.bool false,.int .i64 0,.string ⟨#[]⟩,.string ⟨#[]⟩,.slice none 0 0] 34)) (V0.heap.size+1) #[.int .i64 0,.bool false,.int .i64 0,.string ⟨#[]⟩,.string ⟨#[]⟩,.slice none 0 0] 34:=by
        have:=Blk.new (V0.alloc (.cells #[.int .i64 0,.bool false,.int .i64 0,.string ⟨#[]⟩,.string ⟨#[]⟩,.slice none 0 0] 34)) #[.int .i64 0,.bool false,.int .i64 0,.string ⟨#[]⟩,.string ⟨#[]⟩,.slice none 0 0] 34
        rwa [World.size_alloc]at this
       refine hKo hK hb2 (fun hS=>?_)
       clear hK K hal1 hb1 hd
       generalize ((V0.alloc (.cells #[.int .i64 0,.bool false,.int .i64 0,.string ⟨#[]⟩,.string ⟨#[]⟩,.slice none 0 0] 34)).alloc (.cells #[.int .i64 0,.bool false,.int .i64 0,.string ⟨#[]⟩,.string ⟨#[]⟩,.slice none 0 0] 34))=W2 at *
       obtain⟨p,hp⟩:∃p,V0.heap.size=p:=⟨_,rfl⟩
       obtain⟨q,hq⟩:∃q,V0.heap.size+1=q:=⟨_,rfl⟩
       have hpq:p≠q:=by omega
       have hpw:wv.heap.size≤p:=by omega
       have hqw:wv.heap.size≤q:=by omega
       have hX:Blk W2 p #[.int .i64 0,.bool false,.int .i64 0,.string ⟨#[]⟩,.string ⟨#[]⟩,.slice none 0 0] 34:=by rw[←hp];exact hP
       have hY:Blk W2 q #[.int .i64 0,.bool false,.int .i64 0,.string ⟨#[]⟩,.string ⟨#[]⟩,.slice none 0 0] 34:=by rw[←hq];exact hQ
       rw[hq,hp]
       replace hp:=Hd hp
       replace hq:=Hd hq
       clear hP hQ hds
       refine rdH 12 rfl (fun K hK=>?_)
       clear hS
       have hX3:=Hd (hX.setRow (cs':=#[.int .i64 k1,.bool bo1,.int .i64 n1,.string tA,.string xA,.slice aoA l1.length capA]))
       have hY3:=Hd (hY.setRow_other (g:=p) (cs':=#[.int .i64 k1,.bool bo1,.int .i64 n1,.string tA,.string xA,.slice aoA l1.length capA]) (fun e=>hpq e.symm))
       have hb3:=below_setRow hb2 hpw #[.int .i64 k1,.bool bo1,.int .i64 n1,.string tA,.string xA,.slice aoA l1.length capA]
       rw[if_pos (by kernel_rfl)]
       refine wp_store_row 34 (.tmp 11) (.tmp 26) rfl p #[.int .i64 k1,.bool bo1,.int .i64 n1,.string tA,.string xA,.slice aoA l1.length capA] rfl rfl 34 #[.int .i64 0,.bool false,.int .i64 0,.string ⟨#[]⟩,.string ⟨#[]⟩,.slice none 0 0] hX.eq infoV6 rfl (by simp[Value.oneCell']) ?_
       refine hKo hK hb3 (fun hS=>?_)
       clear hK K hX hY hb2
       generalize (W2.setRow p #[.int .i64 k1,.bool bo1,.int .i64 n1,.string tA,.string xA,.slice aoA l1.length capA])=W3 at *
       refine rdH 13 rfl (fun K hK=>?_)
       clear hS
       have hY4:=Hd (hY3.out.setRow (cs':=#[.int .i64 k2,.bool bo2,.int .i64 n2,.string tB,.string xB,.slice aoB l2.length capB]))
       have hX4:=Hd (hX3.out.setRow_other (g:=q) (cs':=#[.int .i64 k2,.bool bo2,.int .i64 n2,.string tB,.string xB,.slice aoB l2.length capB]) hpq)
       have hb4:=below_setRow hb3 hqw #[.int .i64 k2,.bool bo2,.int .i64 n2,.string tB,.string xB,.slice aoB l2.length capB]
       rw[if_pos (by kernel_rfl)]
       refine wp_store_row 34 (.tmp 12) (.tmp 31) rfl q #[.int .i64 k2,.bool bo2,.int .i64 n2,.string tB,.string xB,.slice aoB l2.length capB] rfl rfl 34 #[.int .i64 0,.bool false,.int .i64 0,.string ⟨#[]⟩,.string ⟨#[]⟩,.slice none 0 0] hY3.out.eq infoV6 rfl (by simp[Value.oneCell']) ?_
       refine hKo hK hb4 (fun hS=>?_)
       clear hK K hY3 hX3 hb3
       generalize (W3.setRow q #[.int .i64 k2,.bool bo2,.int .i64 n2,.string tB,.string xB,.slice aoB l2.length capB])=W4 at *
       refine wpAnyH_done (by kernel_rfl) ?_ _
       clear hS
       have hfin:=Hd (hbv.trans (hb4.mono hbv.size))
       clear hb4 hbv
       go_wp2
       go_meet
       exact⟨_,_,rfl,rfl,hX4,hY4,hfin⟩
      ·clear hS
       go_simp
       go_wp2_with fail
       have hal1:Below V0.heap.size V0 (V0.alloc (.cells #[.int .i64 0,.bool false,.int .i64 0,.string ⟨#[]⟩,.string ⟨#[]⟩,.slice none 0 0] 34)):=(Below.refl _ _).alloc (Nat.le_refl _) _
       have hb1:=hd.trans (hal1.mono hd.size)
       have hds:=hd.size
       refine hKo hK hb1 (fun hS=>?_)
       clear hK K
       refine rdH 10 rfl (fun K hK=>?_)
       clear hS
       go_simp
       go_wp2_with fail
       have hb2:Below wv.heap.size wv ((V0.alloc (.cells #[.int .i64 0,.bool false,.int .i64 0,.string ⟨#[]⟩,.string ⟨#[]⟩,.slice none 0 0] 34)).alloc (.cells #[.int .i64 0,.bool false,.int .i64 0,.string ⟨#[]⟩,.string ⟨#[]⟩,.slice none 0 0] 34)):=hb1.alloc hb1.size _
       have hP:Blk ((V0.alloc (.cells #[.int .i64 0,.bool false,.int .i64 0,.string ⟨#[]⟩,.string ⟨#[]⟩,.slice none 0 0] 34)).alloc (.cells #[.int .i64 0,.bool false,.int .i64 0,.string ⟨#[]⟩,.string ⟨#[]⟩,.slice none 0 0] 34)) V0.heap.size #[.int .i64 0,.bool false,.int .i64 0,.string ⟨#[]⟩,.string ⟨#[]⟩,.slice none 0 0] 34:=(Blk.new V0 _ _).alloc _
       have hQ:Blk ((V0.alloc (.cells #[.int .i64 0,.bool false,.int .i64 0,.string ⟨#[]⟩,.string ⟨#[]⟩,.slice none 0 0] 34)).alloc (.cells #[.int .i64 0,.bool false,.int .i64 0,.string ⟨#[]⟩,.string ⟨#[]⟩,.slice none 0 0] 34)) (V0.heap.size+1) #[.int .i64 0,.bool false,.int .i64 0,.string ⟨#[]⟩,.string ⟨#[]⟩,.slice none 0 0] 34:=by
        have:=Blk.new (V0.alloc (.cells #[.int .i64 0,.bool false,.int .i64 0,.string ⟨#[]⟩,.string ⟨#[]⟩,.slice none 0 0] 34)) #[.int .i64 0,.bool false,.int .i64 0,.string ⟨#[]⟩,.string ⟨#[]⟩,.slice none 0 0] 34
        rwa [World.size_alloc]at this
       refine hKo hK hb2 (fun hS=>?_)
       clear hK K hal1 hb1 hd
       generalize ((V0.alloc (.cells #[.int .i64 0,.bool false,.int .i64 0,.string ⟨#[]⟩,.string ⟨#[]⟩,.slice none 0 0] 34)).alloc (.cells #[.int .i64 0,.bool false,.int .i64 0,.string ⟨#[]⟩,.string ⟨#[]⟩,.slice none 0 0] 34))=W2 at *
       obtain⟨p,hp⟩:∃p,V0.heap.size+1=p:=⟨_,rfl⟩
       obtain⟨q,hq⟩:∃q,V0.heap.size=q:=⟨_,rfl⟩
       have hpq:p≠q:=by omega
       have hpw:wv.heap.size≤p:=by omega
       have hqw:wv.heap.size≤q:=by omega
       have hX:Blk W2 p #[.int .i64 0,.bool false,.int .i64 0,.string ⟨#[]⟩,.string ⟨#[]⟩,.slice none 0 0] 34:=by rw[←hp];exact hQ
       have hY:Blk W2 q #[.int .i64 0,.bool false,.int .i64 0,.string ⟨#[]⟩,.string ⟨#[]⟩,.slice none 0 0] 34:=by rw[←hq];exact hP
       rw[hp,hq]
       replace hp:=Hd hp
       replace hq:=Hd hq
       clear hP hQ hds
       refine rdH 12 rfl (fun K hK=>?_)
       clear hS
       have hX3:=Hd (hX.setRow (cs':=#[.int .i64 k1,.bool bo1,.int .i64 n1,.string tA,.string xA,.slice aoA l1.length capA]))
       have hY3:=Hd (hY.setRow_other (g:=p) (cs':=#[.int .i64 k1,.bool bo1,.int .i64 n1,.string tA,.string xA,.slice aoA l1.length capA]) (fun e=>hpq e.symm))
       have hb3:=below_setRow hb2 hpw #[.int .i64 k1,.bool bo1,.int .i64 n1,.string tA,.string xA,.slice aoA l1.length capA]
       rw[if_pos (by kernel_rfl)]
       refine wp_store_row 34 (.tmp 11) (.tmp 26) rfl p #[.int .i64 k1,.bool bo1,.int .i64 n1,.string tA,.string xA,.slice aoA l1.length capA] rfl rfl 34 #[.int .i64 0,.bool false,.int .i64 0,.string ⟨#[]⟩,.string ⟨#[]⟩,.slice none 0 0] hX.eq infoV6 rfl (by simp[Value.oneCell']) ?_
       refine hKo hK hb3 (fun hS=>?_)
       clear hK K hX hY hb2
       generalize (W2.setRow p #[.int .i64 k1,.bool bo1,.int .i64 n1,.string tA,.string xA,.slice aoA l1.length capA])=W3 at *
       refine rdH 13 rfl (fun K hK=>?_)
       clear hS
       have hY4:=Hd (hY3.out.setRow (cs':=#[.int .i64 k2,.bool bo2,.int .i64 n2,.string tB,.string xB,.slice aoB l2.length capB]))
       have hX4:=Hd (hX3.out.setRow_other (g:=q) (cs':=#[.int .i64 k2,.bool bo2,.int .i64 n2,.string tB,.string xB,.slice aoB l2.length capB]) hpq)
       have hb4:=below_setRow hb3 hqw #[.int .i64 k2,.bool bo2,.int .i64 n2,.string tB,.string xB,.slice aoB l2.length capB]
       rw[if_pos (by kernel_rfl)]
       refine wp_store_row 34 (.tmp 12) (.tmp 31) rfl q #[.int .i64 k2,.bool bo2,.int .i64 n2,.string tB,.string xB,.slice aoB l2.length capB] rfl rfl 34 #[.int .i64 0,.bool false,.int .i64 0,.string ⟨#[]⟩,.string ⟨#[]⟩,.slice none 0 0] hY3.out.eq infoV6 rfl (by simp[Value.oneCell']) ?_
       refine hKo hK hb4 (fun hS=>?_)
       clear hK K hY3 hX3 hb3
       generalize (W3.setRow q #[.int .i64 k2,.bool bo2,.int .i64 n2,.string tB,.string xB,.slice aoB l2.length capB])=W4 at *
       refine wpAnyH_done (by kernel_rfl) ?_ _
       clear hS
       have hfin:=Hd (hbv.trans (hb4.mono hbv.size))
       clear hb4 hbv
       go_wp2
       go_meet
       exact⟨_,_,rfl,rfl,hX4,hY4,hfin⟩
    obtain⟨w4,rfl⟩:∃w4:World,w4=wc:=⟨_,rfl⟩
    obtain⟨p,q,rfl,rfl,hX4,hY4,hb4⟩:=hcut
    have hbf:=Hd (hbv.out.trans (hb4.out.mono hbv.out.size))
    replace hslA:=Hd (hslA.out.stay hb4.out)
    replace hslB:=Hd (hslB.out.stay hb4.out)
    have x0:=hX4.out.cell 0 rfl
    have x1:=hX4.out.cell 1 rfl
    have x2:=hX4.out.cell 2 rfl
    have x3:=hX4.out.cell 3 rfl
    have x4:=hX4.out.cell 4 rfl
    have x5:=hX4.out.cell 5 rfl
    have y0:=hY4.out.cell 0 rfl
    have y1:=hY4.out.cell 1 rfl
    have y2:=hY4.out.cell 2 rfl
    have y3:=hY4.out.cell 3 rfl
    have y4:=hY4.out.cell 4 rfl
    have y5:=hY4.out.cell 5 rfl
    clear hF hbv hb4 hX4 hY4
    by_cases hz1:k1=0
    ·subst hz1
     have hnul:isN (.mk 0 bo1 n1 tA xA l1)=true:=rfl
     have hsx2:=hsx.out
     rw[hnul]at hsx2
     simp only[Bool.not_true,Bool.false_and,Bool.or_false]at hsx2
     have hok2:Hid (okX A B r s (k+1)):=Hd (hox.out.2 ⟨hok.out,by unfold okC;rw[hnul];simp⟩)
     rw[←hsx2]
     replace hsx2:=Hd hsx2
     clear hsx hox hno hnul
     go_wp2
     go_roundw
     case rel=>exact⟨k+1,hk1.out,by go_num,rfl,hok2,hbf⟩
     case measure=>have:=hk1.out;simp[intOf];omega
    ·have hz1b:(k1==0)=false:=beq_eq_false_iff_ne.2 hz1
     have q1:isN (.mk k1 bo1 n1 tA xA l1)=false:=decide_eq_false hz1
     by_cases hz2:k2=0
     ·subst hz2
      have hnul:isN (.mk 0 bo2 n2 tB xB l2)=true:=rfl
      have hsx2:=hsx.out
      rw[hnul]at hsx2
      simp only[Bool.not_true,Bool.and_false,Bool.or_false]at hsx2
      have hok2:Hid (okX A B r s (k+1)):=Hd (hox.out.2 ⟨hok.out,by unfold okC;rw[hnul];simp⟩)
      rw[←hsx2]
      replace hsx2:=Hd hsx2
      clear hsx hox hno hnul q1
      go_wp2
      go_roundw
      case rel=>exact⟨k+1,hk1.out,by go_num,rfl,hok2,hbf⟩
      case measure=>have:=hk1.out;simp[intOf];omega
     ·have hz2b:(k2==0)=false:=beq_eq_false_iff_ne.2 hz2
      have q2:isN (.mk k2 bo2 n2 tB xB l2)=false:=decide_eq_false hz2
      have hsx2:=hsx.out
      rw[q1,q2]at hsx2
      simp only[Bool.not_false,Bool.and_self,Bool.or_true]at hsx2
      have hoc:okC (.mk k1 bo1 n1 tA xA l1) (.mk k2 bo2 n2 tB xB l2)=sameP (.mk k1 bo1 n1 tA xA l1) (.mk k2 bo2 n2 tB xB l2):=by unfold okC;rw[q1,q2];simp
      have hcall:=same_call N (by omega) w4 k1 bo1 n1 tA xA _ l1 k2 bo2 n2 tB xB _ l2 hslA.out hslB.out
      unfold agg6 at hcall
      have hox2:=hox.out
      have hno2:=hno.out
      rw[hoc]at hox2 hno2
      generalize sameP (.mk k1 bo1 n1 tA xA l1) (.mk k2 bo2 n2 tB xB l2)=bb at *
      replace hox2:=Hd hox2
      replace hno2:=Hd hno2
      replace hsx2:=Hd hsx2
      replace hcall:=Hd hcall
      replace hoc:=Hd hoc
      clear hsx hox hno q1 q2
      go_wp2_with fail
      refine hcall.out.mono ?_
      rintro e w5 ⟨rfl,hb5⟩
      have hb6:=Hd (hbf.out.trans (hb5.mono hbf.out.size))
      clear x0 x1 x2 x3 x4 x5 y0 y1 y2 y3 y4 y5 hb5 hcall
      cases bb with
      |false=>
       have hcf:=Hd (hno2.out rfl)
       have hfin:=Hd (hb0.out.trans (hb6.out.mono hb0.out.size))
       clear hno2 hox2
       go_wp2
       go_ret3
       exact⟨hfin.out,(fun h=>by rw[hcf.out]at h;cases h),fun _=>rfl⟩
      |true=>
       have hok2:Hid (okX A B r s (k+1)):=Hd (hox2.out.2 ⟨hok.out,rfl⟩)
       clear hno2 hox2
       go_wp2
       go_roundw
       case rel=>exact⟨k+1,hk1.out,by go_num,by rw[hsx2.out],hok2,hb6⟩
       case measure=>have:=hk1.out;simp[intOf];omega
  ·as_aux_lemma=>
    have hki:¬(k:Int)<(xl:Int):=by omega
    obtain rfl:k=xl:=by omega
    obtain⟨wq,rfl⟩:∃wq:World,wq=wr:=⟨_,rfl⟩
    have hc:=(okX_end A B r s).1 (by rw[hxl.out];exact hok.out)
    have hsE:shX A B r s k=shared A B r s:=by rw[←hxl.out,shX_end]
    rw[hsE]
    have hbw:=hb0.out.trans (hb.out.mono hb0.out.size)
    have hb1:=Hd (hbw.alloc hbw.size (.cells (zeroCells n) 34))
    have hJ0:=Hd (JO.zero w wq N n)
    have hpq:Blk wq w.heap.size _ _:=(hb.out.block _ hp0.out.lt).trans hp0.out
    have hpw:=Hd (hpq.alloc (.cells (zeroCells n) 34))
    have y0:=hpq.cell 0 rfl
    have hwl:w.heap.size<wq.heap.size:=hpq.lt
    have hmk:=make_vals n n (Nat.le_refl _) (by omega) wq
    have hz:=outK_zero A B r s hA hr.out
    rw[hn.out]at hz
    obtain⟨sE,hsE2⟩:∃sE,shared A B r s=sE:=⟨_,rfl⟩
    rw[hsE2]
    replace hsE2:=Hd hsE2
    clear hsE
    replace hz:=Hd hz
    replace hc:=Hd hc
    clear hb hbw hok hpq hpr2 hsh hshl
    go_wp2_with (with_reducible refine wpList_copyJ rfl _ _ rfl w N wq.heap.size n n ?q1 (List.replicate n nullV) ?q2 ?q3 ao1 c1 r ?q4 ?q5 ?q6 ?q7 ?q8 ?ca)
    case q3=>exact hJ0.out
    case q5=>exact h1.out
    case q6=>exact hb1.out
    case q7=>rw[hrl.out];exact hAn
    case q8=>omega
    case ca =>
     intro w2 hJ hb2 hsz hoth
     have hp2:Hid (Blk w2 w.heap.size _ _):=Hd ((hoth _ (by omega)).trans hpw.out)
     have hJ2:Hid (JO w w2 N wq.heap.size (outK A B r s 0)):=Hd (by rw[hz.out];simpa using hJ)
     replace hb2:=Hd hb2
     obtain⟨g,hg⟩:∃g,wq.heap.size=g:=⟨_,rfl⟩
     rw[hg]at hJ2 hwl
     try rw[hg]
     replace hg:=Hd hg
     clear hJ hJ0 hb1 hpw hmk hsz hoth y0
     go_wp2
     go_loopw [54] (fun i wr=>∃j:Nat,j≤s.length∧i=.int .i64 (j:Int)∧Hid (JO w wr N g (outK A B r s j))∧Hid (Below w.heap.size w wr)∧Hid (Blk wr w.heap.size #[.slice an n cn,.slice ao3 s.length c3,.slice ao4 k c4] 55)) (fun i _=>s.length-(intOf i).toNat)
     case atStart=>exact⟨0,Nat.zero_le _,rfl,hJ2,hb2,hp2⟩
     case round =>
      clear hJ2 hb2 hp2
      obtain⟨j,hj,rfl,hJ,hb,hp⟩:=hrel
      by_cases hlj:j<s.length
      ·have hji:(j:Int)<(s.length:Int):=by omega
       have hj1:=Hd (show j+1≤s.length from hlj)
       have hkB:j<B.length:=by have:=hs.out;omega
       obtain⟨b1,o1,rfl,hb1,hcell⟩:=hat.out j hkB
       obtain⟨i,hix,hin,hiA,⟨hil,hget⟩,hstep⟩:=step_pack hA hB hs.out hr.out hn.out hkB
       rw[hix]at hcell
       have hskip:=meet_skip hA hB hs.out hr.out hsm.out hkB
       have hset:=meet_set hA hB hs.out hr.out hsm.out hc.out hkB
       rw[hix]at hset
       obtain⟨bB,oB,k2,bo2,n2,tB,xB,l2,aoB,capB,rfl,heB,hrB,hokB,hslB⟩:=la_at h2.out j hlj
       rw[heB]at hskip hset
       replace hrB:=hrB.below hb.out
       obtain⟨x0,x1,x2,x3,x4,x5⟩:=hrB.six
       have hal:Below wr.heap.size wr (wr.alloc (.cells #[.int .i64 k2,.bool bo2,.int .i64 n2,.string tB,.string xB,.slice aoB l2.length capB] 34)):=(Below.refl _ _).alloc (Nat.le_refl _) _
       have hJ1:=Hd (hJ.out.alloc (.cells #[.int .i64 k2,.bool bo2,.int .i64 n2,.string tB,.string xB,.slice aoB l2.length capB] 34))
       have hb1':=Hd (hb.out.alloc hb.out.size (.cells #[.int .i64 k2,.bool bo2,.int .i64 n2,.string tB,.string xB,.slice aoB l2.length capB] 34))
       have hp1:=Hd (hp.out.alloc (.cells #[.int .i64 k2,.bool bo2,.int .i64 n2,.string tB,.string xB,.slice aoB l2.length capB] 34))
       have hgl:g<wr.heap.size:=by
        obtain⟨cs,h5,_⟩:=hJ.out
        exact h5.lt
       have hii:(i:Int)<(n:Int):=by omega
       replace hcell:=sB hb1'.out hcell
       replace hskip:=Hd hskip
       replace hset:=Hd hset
       clear hget hstep heB hrB hiA hal hJ hb hp
       by_cases hz2:k2=0
       ·subst hz2
        have hsk:=hskip.out rfl
        rw[←hsk]at hJ1
        replace hsk:=Hd hsk
        clear hskip hset hcell hslB
        go_wp2
        go_roundw
        case rel=>exact⟨j+1,hj1.out,by go_num,hJ1,hb1',hp1⟩
        case measure=>have:=hj1.out;simp[intOf];omega
       ·have hz2b:(k2==0)=false:=beq_eq_false_iff_ne.2 hz2
        have hst:=Hd (hset.out (decide_eq_false hz2))
        have hX:=Blk.new wr #[.int .i64 k2,.bool bo2,.int .i64 n2,.string tB,.string xB,.slice aoB l2.length capB] 34
        clear hskip hset
        replace hix:=Hd hix
        go_upto_region 16 with fail
        have hS0:Blk (wr.alloc (.cells #[.int .i64 k2,.bool bo2,.int .i64 n2,.string tB,.string xB,.slice aoB l2.length capB] 34)).drew w.heap.size #[.slice an n cn,.slice (some ⟨b1,o1,none⟩) s.length c3,.slice ao4 k c4] 55∧Blk (wr.alloc (.cells #[.int .i64 k2,.bool bo2,.int .i64 n2,.string tB,.string xB,.slice aoB l2.length capB] 34)).drew wr.heap.size #[.int .i64 k2,.bool bo2,.int .i64 n2,.string tB,.string xB,.slice aoB l2.length capB] 34∧(wr.alloc (.cells #[.int .i64 k2,.bool bo2,.int .i64 n2,.string tB,.string xB,.slice aoB l2.length capB] 34)).drew.cell? ⟨b1,o1+j,none⟩=some (.int .i64 (i:Int)):=⟨hp1.out,hX,hcell⟩
        have hJ3:JO w (wr.alloc (.cells #[.int .i64 k2,.bool bo2,.int .i64 n2,.string tB,.string xB,.slice aoB l2.length capB] 34)).drew N g (outK A B r s j):=hJ1.out
        have hb3:Below w.heap.size w (wr.alloc (.cells #[.int .i64 k2,.bool bo2,.int .i64 n2,.string tB,.string xB,.slice aoB l2.length capB] 34)).drew:=hb1'.out.drew
        refine wp_region_held_drew (S:=fun V=>Blk V w.heap.size #[.slice an n cn,.slice (some ⟨b1,o1,none⟩) s.length c3,.slice ao4 k c4] 55∧Blk V wr.heap.size #[.int .i64 k2,.bool bo2,.int .i64 n2,.string tB,.string xB,.slice aoB l2.length capB] 34∧V.cell? ⟨b1,o1+j,none⟩=some (.int .i64 (i:Int))) (by kernel_rfl) hS0 (fun hS=>?_)
        have hV:=hS0
        clear hS0 hJ1 hb1' hp1 hX hcell x0 x1 x2 x3 x4 x5
        generalize (wr.alloc (.cells #[.int .i64 k2,.bool bo2,.int .i64 n2,.string tB,.string xB,.slice aoB l2.length capB] 34)).drew=V0 at *
        refine tkS [0,1,2,3,4,5,6,7] ?_
        iterate 8
         refine tkC ?_ rfl (fun w' hS=>?_) hS ?_
         rotate_left
         ·
          have q1:=hS.1.cell 1 rfl;have q2:=hS.2.2;have y0:=hS.2.1.cell 0 rfl;have y1:=hS.2.1.cell 1 rfl;have y2:=hS.2.1.cell 2 rfl;have y3:=hS.2.1.cell 3 rfl;have y4:=hS.2.1.cell 4 rfl;have y5:=hS.2.1.cell 5 rfl
          go_simp
          try with_reducible rfl
        refine rdH 8 rfl (fun K hK=>?_)
        clear hS
        rw[if_pos (by kernel_rfl)]
        refine wp_storeJ (.tmp 69) (.tmp 68) rfl hJ3 i hil k2 bo2 n2 tB xB l2 (.slice aoB l2.length capB) hokB hslB rfl rfl rfl ?_
        intro cs hJ4
        rw[←hst.out]at hJ4
        have hp4:Blk (V0.setRow g cs) w.heap.size #[.slice an n cn,.slice (some ⟨b1,o1,none⟩) s.length c3,.slice ao4 k c4] 55:=hV.1.setRow_other (by omega)
        have hb4:=below_setRow hb3 (by omega:w.heap.size≤g) cs
        have hcell4:(V0.setRow g cs).cell? ⟨b1,o1+j,none⟩=some (.int .i64 (i:Int)):=(World.cell?_of_block (_root_.Go.setRow_other V0 g b1 cs (by omega))).trans hV.2.2
        refine hKo hK ⟨hp4,hV.2.1.setRow_other (by omega),hcell4⟩ (fun hS=>?_)
        clear hK K hV hcell4 hb3 hJ3
        generalize V0.setRow g cs=V1 at *
        replace hp4:=Hd hp4
        replace hb4:=Hd hb4
        replace hJ4:=Hd hJ4
        refine wpAnyH_done (by kernel_rfl) ?_ _
        clear hS
        go_wp2
        go_roundw
        case rel=>exact⟨j+1,hj1.out,by go_num,hJ4,hb4,hp4⟩
        case measure=>have:=hj1.out;simp[intOf];omega
      ·have hji:¬(j:Int)<(s.length:Int):=by omega
       obtain rfl:j=s.length:=by omega
       have hfin:LA wr N (.slice (some ⟨g,0,none⟩) n n) (joinR A B r s):=by
        have h:=hJ.out
        rw[hs.out,outK_end A B r s hs.out]at h
        have hl:(joinR A B r s).length=n:=by unfold joinR;rw[List.length_map,hn.out]
        have h3:=h.read (c:=n) (by rw[hl];exact hnN) hb.out
        rw[hl]at h3
        exact h3
       replace hfin:=Hd hfin
       clear hJ hp
       go_wp2
       go_ret3
       exact⟨hb.out,fun _=>⟨_,_,by rw[hsE2.out];rfl,hfin.out⟩,fun h=>by rw[hc.out]at h;cases h⟩
theorem jtogether_any (N : Nat) (hN : N ≤ 1048576) (w : World) (hE : Env w) (va vb : Value) (A B : Tab) (hA : TabA w N va A) (hB : TabA w N vb B) (a1 : A.vars.length ≤ 100000) (a2 : A.rows.length ≤ 1048576) (b1 : B.vars.length ≤ 100000) (b2 : B.rows.length ≤ 1048576) :
 Calls Tryz.prog 20 #[va,vb] w fun e w'=>∃v,e=.returned (.tuple #[v,.bool (jokZ A B)])∧JBoth w w' v A.vars B.vars:=by
 obtain⟨vv0,rv,rfl,hV,hR⟩:=hA.ex
 obtain⟨vv2,rv2,rfl,hV2,hR2⟩:=hB.ex
 obtain⟨av,cv,rfl,-⟩:=hV.form
 obtain⟨av2,cv2,rfl,hbc⟩:=hV2.form
 obtain⟨ar,cr,rfl,-,-⟩:=hR.form
 obtain⟨ar2,cr2,rfl,-,-⟩:=hR2.form
 obtain⟨i0,hi,hz0,hz1,hz2⟩:=info_parts infoStr
 obtain⟨i1,hi1,hy0,hy1,hy2⟩:=info_parts infoInt
 obtain⟨i2,hi2,hx0,hx1,hx2⟩:=info_parts infoPair
 have hal:Below w.heap.size w (((w.alloc (.cells #[.slice av A.vars.length cv,.slice ar A.rows.length cr] 25)).alloc (.cells #[.slice av2 B.vars.length cv2,.slice ar2 B.rows.length cr2] 25)).alloc (.cells #[.slice none 0 0,.slice none 0 0,.slice none 0 0] 55)):=
  (((Below.refl _ _).alloc (Nat.le_refl _) _).alloc (by rw[World.size_alloc];omega) _).alloc (by rw[World.size_alloc,World.size_alloc];omega) _
 have hq0:=((Blk.new w #[.slice av A.vars.length cv,.slice ar A.rows.length cr] 25).alloc (.cells #[.slice av2 B.vars.length cv2,.slice ar2 B.rows.length cr2] 25)).alloc (.cells #[.slice none 0 0,.slice none 0 0,.slice none 0 0] 55)
 have hq1:=(Blk.new (w.alloc (.cells #[.slice av A.vars.length cv,.slice ar A.rows.length cr] 25)) #[.slice av2 B.vars.length cv2,.slice ar2 B.rows.length cr2] 25).alloc (.cells #[.slice none 0 0,.slice none 0 0,.slice none 0 0] 55)
 have hq2:=Blk.new ((w.alloc (.cells #[.slice av A.vars.length cv,.slice ar A.rows.length cr] 25)).alloc (.cells #[.slice av2 B.vars.length cv2,.slice ar2 B.rows.length cr2] 25)) #[.slice none 0 0,.slice none 0 0,.slice none 0 0] 55
 rw[World.size_alloc]at hq1 hq2
 rw[World.size_alloc]at hq2
 obtain⟨w1,hw1⟩:∃w1,(((w.alloc (.cells #[.slice av A.vars.length cv,.slice ar A.rows.length cr] 25)).alloc (.cells #[.slice av2 B.vars.length cv2,.slice ar2 B.rows.length cr2] 25)).alloc (.cells #[.slice none 0 0,.slice none 0 0,.slice none 0 0] 55))=w1:=⟨_,rfl⟩
 have hs1:w1.heap.size=w.heap.size+3:=by rw[←hw1];simp
 rw[hw1]at hal hq0 hq1 hq2
 have hcl:=Hd (cloneT_any w1 _ A.vars (by omega) (TextsA.below hV hal))
 have cA:=Hd (fun V (h:Below w.heap.size w V)=>checkT_any N (by omega) V (hE.below h) _ A (hA.stay h) (by omega) a2)
 have cB:=Hd (fun V (h:Below w.heap.size w V)=>checkT_any N (by omega) V (hE.below h) _ B (hB.stay h) (by omega) b2)
 have x0:=hq0.cell 0 rfl
 have y0:=hq1.cell 0 rfl
 replace hi:=Hd hi
 replace hz0:=Hd hz0
 replace hz1:=Hd hz1
 replace hz2:=Hd hz2
 replace hi1:=Hd hi1
 replace hy0:=Hd hy0
 replace hy1:=Hd hy1
 replace hy2:=Hd hy2
 replace hi2:=Hd hi2
 replace hx0:=Hd hx0
 replace hx1:=Hd hx1
 replace hx2:=Hd hx2
 replace hbc:=Hd hbc
 replace hal:=Hd hal
 replace hq0:=Hd hq0
 replace hq1:=Hd hq1
 replace hq2:=Hd hq2
 replace hw1:=Hd hw1
 clear hA hB hV hV2 hR hR2 hE
 go_enter Tryz.func20,Tryz.ntmps20
 go_wp2_with fail
 rw[hw1.out]
 refine hcl.out.mono ?_
 rintro e w2 ⟨v2,rfl,hW⟩
 have hb2:=hal.out.trans (hW.below.mono hal.out.size)
 have hs2:=hW.below.size
 have hown:=hW.own
 rw[textsV_length]at hown
 replace y0:=sB hW.below y0
 have hTJ:Hid (TJ w (w2.alloc (.cells #[v2,.slice none 0 0,.slice none 0 0] 55)) #[.slice av A.vars.length cv,.slice ar A.rows.length cr] #[.slice av2 B.vars.length cv2,.slice ar2 B.rows.length cr2] w2.heap.size v2 (.slice none 0 0) (.slice none 0 0) ((B.vars.take 0).foldl addN A.vars) ((atN A.vars B.vars).take 0) (shK A.vars B.vars 0)):=Hd (by
  have e0:Blk w2 w.heap.size _ _:=(hW.below.block _ hq0.out.lt).trans hq0.out
  have e1:Blk w2 (w.heap.size+1) _ _:=(hW.below.block _ hq1.out.lt).trans hq1.out
  have e2:Blk w2 (w.heap.size+2) _ _:=(hW.below.block _ hq2.out.lt).trans hq2.out
  have e3:w2.ownsRow w.heap.size 9 1 v2 A.vars.length (textsV A.vars):=own_low4 hown (by omega)
  exact⟨hb2.alloc hb2.size _,e0.alloc _,e1.alloc _,e2.alloc _,Blk.new _ _ _,e3.alloc _,by simpa[numsN]using World.ownsRow_nil _ _ _ _,by simpa[pairsV,shK]using World.ownsRow_nil _ _ _ _,by omega⟩)
 obtain⟨ax,cx,hvx,-⟩:=own_texts (by simpa using hown:w2.ownsRow w1.heap.size 9 1 v2 A.vars.length (textsV A.vars))
 subst hvx
 have hps:w.heap.size+2<w2.heap.size:=by omega
 have y0c:=hTJ.out.cb.cell 0 rfl
 clear hcl hW hb2 hown hq0 hq1 hq2 hal hs2 hs1 x0 y0
 go_wp2
 obtain⟨pb,hpb⟩:∃pb,w2.heap.size=pb:=⟨_,rfl⟩
 rw[hpb]at hTJ hps
 try rw[hpb]
 replace hpb:=Hd hpb
 clear y0c
 go_loopw [17] (fun i wr=>∃(k:Nat) (vv va vs:Value),k≤B.vars.length∧i=.int .i64 (k:Int)∧Hid (TJ w wr #[.slice av A.vars.length cv,.slice ar A.rows.length cr] #[.slice av2 B.vars.length cv2,.slice ar2 B.rows.length cr2] pb vv va vs ((B.vars.take k).foldl addN A.vars) ((atN A.vars B.vars).take k) (shK A.vars B.vars k))) (fun i _=>B.vars.length-(intOf i).toNat)
 case atStart=>exact⟨0,_,_,_,by omega,rfl,hTJ⟩
 case round =>
  clear hTJ
  obtain⟨k,vv,va,vs,hk,rfl,hT⟩:=hrel
  by_cases hlt:k<B.vars.length
  ·as_aux_lemma=>
    have hki:(k:Int)<(B.vars.length:Int):=by omega
    obtain⟨b1,off,rfl,hb1,hcell⟩:=hbc.out k hlt
    replace hcell:=sB hT.out.below hcell
    have hft:=fold_take (a:=A.vars) hlt
    have hat:=at_take (a:=A.vars) hlt
    have hsi:=shK_in (A:=A.vars) hlt
    have hso:=shK_out (A:=A.vars) hlt
    have hsl:=shK_len A.vars B.vars k
    have hnl:((B.vars.take k).foldl addN A.vars).length≤200000:=by
     have:=foldN_len (B.vars.take k) A.vars
     rw[List.length_take]at this
     omega
    have hal2:((atN A.vars B.vars).take k).length=k:=by
     unfold atN
     rw[List.length_take,List.length_map]
     omega
    obtain⟨an,cn,rfl,hnc⟩:=own_texts hT.out.names
    have hix:=index_any wr an cn _ B.vars[k] (by omega) hnc
    have hneg:=idxI_neg ((B.vars.take k).foldl addN A.vars) B.vars[k]
    have hin:B.vars[k]∈(B.vars.take k).foldl addN A.vars→idxI ((B.vars.take k).foldl addN A.vars) B.vars[k]=((((B.vars.take k).foldl addN A.vars).idxOf B.vars[k]:Nat):Int):=fun h=>by unfold idxI;rw[if_pos h]
    have x0:=hT.out.b1.cell 0 rfl
    have x1:=hT.out.b1.cell 1 rfl
    have x2:=hT.out.b1.cell 2 rfl
    have f0:=hT.out.b1.free 0
    have f1:=hT.out.b1.free 1
    have f2:=hT.out.b1.free 2
    generalize hF2:(B.vars.take (k+1)).foldl addN A.vars=F2 at *
    generalize hA2:(atN A.vars B.vars).take (k+1)=A2 at *
    generalize hS2:shK A.vars B.vars (k+1)=S2 at *
    replace hF2:=Hd hF2
    replace hA2:=Hd hA2
    replace hS2:=Hd hS2
    generalize (B.vars.take k).foldl addN A.vars=F at *
    generalize (atN A.vars B.vars).take k=P at *
    generalize shK A.vars B.vars k=S at *
    generalize B.vars[k]=x at *
    have hk1:=Hd (show k+1≤B.vars.length from hlt)
    generalize idxI F x=ix at *
    replace hix:=Hd hix
    have hlen0:=hT.out.names
    have hat0:=hT.out.places
    have hpr0:=hT.out.pairs
    rw[hal2]at hat0
    replace hal2:=Hd hal2
    have hszT:=hT.out.below.size
    obtain⟨aa,ca,hva⟩:=own_form4x hat0
    subst hva
    obtain⟨asl,cs,hvs⟩:=own_form4x hpr0
    subst hvs
    clear hnc hb1
    by_cases hm:x∈F
    ·rw[decide_eq_true hm]at hneg
     have hge:¬ix<0:=by simpa using hneg
     have hix2:=hin hm
     have hsh:=hsi hm
     have hadd:addN F x=F:=by unfold addN;rw[if_pos hm]
     rw[hadd]at hft hat
     obtain⟨n,hn⟩:∃n,F.idxOf x=n:=⟨_,rfl⟩
     rw[hn]at hix2 hat hsh
     subst hix2
     obtain⟨sl,hsln⟩:∃sl,S.length=sl:=⟨_,rfl⟩
     rw[hsln]at hpr0 hsl
     replace hn:=Hd hn
     replace hm:=Hd hm
     replace hat:=Hd hat
     replace hft:=Hd hft
     replace hsh:=Hd hsh
     replace hadd:=Hd hadd
     have hT':=hT
     rw[hsln]at hT' x2
     replace hsln:=Hd hsln
     clear hin hneg hlen0 f0 hso hsi f1 hT
     go_wp2_with fail
     refine hix.out.mono ?_
     rintro e w4 ⟨rfl,rfl⟩
     go_wp2_with (at_builtin;refine wpList_append_own _ rfl _ _ 53 rfl w.heap.size 86 i2 (.agg #[.int .i64 0,.int .i64 0]) 2 16 Tryz.underlying53 hi2.out hx0.out hx1.out hx2.out rfl (by decide) _ sl (pairsV S) rfl (hpr0.alloc _) _ 1 _ [.int .i64 (n:Int),.int .i64 (k:Int)] rfl rfl (news_b2 _ _ _ _) ?qa ?qb ?qc ?qd ?qe)
     case qa=>simp[Value.oneCell']
     case qb=>simp only[maxLen];omega
     case qc=>omega
     case qd=>simp;omega
     case qe=>
      intro v' w5 h1 h2 _
      have hT5:=(hT'.out.alloc (.cells #[.int .i64 (n:Int),.int .i64 (k:Int)] 86)).pair n k (by rw[hsln.out];exact h1) h2
      rw[←hsh.out]at hT5
      obtain⟨a5,c5,rfl⟩:=own_form4x h1
      have hne0:=own_ne hpr0 hT'.out.b1 (by decide)
      have e1:Blk w5 pb _ _:=(h2.block pb (by rw[World.size_alloc];have:=hT'.out.b1.lt;omega) (fun e=>hne0 e.symm)).trans (hT'.out.b1.alloc (.cells #[.int .i64 (n:Int),.int .i64 (k:Int)] 86))
      have g1:=e1.cell 2 rfl
      have g2:=e1.free 2
      have hat5:=hT5.places
      rw[hal2.out]at hat5
      have k1:=hT5.b1.cell 1 rfl
      have hsz5:=hT5.below.size
      have hszs:(w5.setCell ⟨pb,2,none⟩ (.slice a5 (sl+1) c5)).heap.size=w5.heap.size:=by simp[World.setCell]
      have hnw:=news_b (w5.setCell ⟨pb,2,none⟩ (.slice a5 (sl+1) c5)) (.int .i64 (n:Int)) 3
      rw[hszs]at hnw hsz5
      replace hszs:=Hd hszs
      replace hT5:=Hd hT5
      clear h1 h2 hT' hat0 x0 x1 x2 f2 hne0 e1 hpr0
      go_wp2_with (at_builtin;refine wpList_append_own _ rfl _ _ 52 rfl w.heap.size 3 i1 (.int .i64 0) 1 8 Tryz.underlying52 hi1.out hy0.out hy1.out hy2.out rfl (by decide) _ k (numsN P) rfl (hat5.alloc _) _ 1 _ [.int .i64 (n:Int)] rfl rfl hnw ?sa ?sb ?sc ?sd ?se)
      case sa=>simp[Value.oneCell']
      case sb=>simp only[maxLen];omega
      case sc=>omega
      case sd=>simp;omega
      case se=>
       intro v8 w8 h1 h2 _
       have hT8:=(hT5.out.alloc (.cells #[.int .i64 (n:Int)] 3)).place n (by rw[hal2.out];exact h1) h2
       rw[←hat.out]at hT8
       obtain⟨a8,c8,rfl⟩:=own_form4x h1
       have hne0:=own_ne hat5 hT5.out.b1 (by decide)
       have e1:Blk w8 pb _ _:=(h2.block pb (by rw[World.size_alloc];have:=hT5.out.b1.lt;omega) (fun e=>hne0 e.symm)).trans (hT5.out.b1.alloc (.cells #[.int .i64 (n:Int)] 3))
       have g1:=e1.cell 1 rfl
       have g2:=e1.free 1
       replace hT8:=Hd hT8
       clear h1 h2 hT5 hat5 k1 hne0 e1
       go_wp2
       go_roundw
       case rel=>exact⟨k+1,_,_,_,hk1.out,by go_num,by rw[hF2.out,hA2.out,hS2.out,hft.out];exact hT8⟩
       case measure=>have:=hk1.out;simp[intOf];omega
    ·rw[decide_eq_false hm]at hneg
     have hge:ix<0:=by simpa using hneg
     have hsh:=hso hm
     have hadd:addN F x=F++[x]:=by unfold addN;rw[if_neg hm]
     have hidx:=idx_new hm
     rw[hidx]at hat
     rw[hadd]at hft
     obtain⟨n,hn⟩:∃n,F.length=n:=⟨_,rfl⟩
     rw[hn]at hat hnl hlen0
     replace hm:=Hd hm
     replace hat:=Hd hat
     replace hft:=Hd hft
     replace hsh:=Hd hsh
     replace hadd:=Hd hadd
     replace hidx:=Hd hidx
     clear hin hneg hso hsi f2 x2
     rw[hn]at hix x0
     have hT':=hT
     rw[hn]at hT'
     replace hn:=Hd hn
     clear hT
     go_wp2_with fail
     refine hix.out.mono ?_
     rintro e w4 ⟨rfl,rfl⟩
     go_wp2_with (at_builtin;refine wpList_append_own _ rfl _ _ 22 rfl w.heap.size 9 i0 (.string ByteArray.empty) 1 16 Tryz.underlying22 hi.out hz0.out hz1.out hz2.out rfl (by decide) _ n (textsV F) rfl (hlen0.alloc _) _ 1 _ [.string x] rfl rfl (news_b _ _ _) ?ra ?rb ?rc ?rd ?re)
     case ra=>simp[Value.oneCell']
     case rb=>simp only[maxLen];omega
     case rc=>omega
     case rd=>simp;omega
     case re=>
      intro v' w5 h1 h2 _
      have hT5:=(hT'.out.alloc (.cells #[.string x] 9)).name x (by rw[hn.out];exact h1) h2
      obtain⟨a5,c5,rfl⟩:=own_form4x h1
      have hne0:=own_ne hlen0 hT'.out.b1 (by decide)
      have e1:Blk w5 pb _ _:=(h2.block pb (by rw[World.size_alloc];have:=hT'.out.b1.lt;omega) (fun e=>hne0 e.symm)).trans (hT'.out.b1.alloc (.cells #[.string x] 9))
      have g1:=e1.cell 0 rfl
      have g2:=e1.free 0
      have hat5:=hT5.places
      rw[hal2.out]at hat5
      have k1:=hT5.b1.cell 1 rfl
      have hsz5:=hT5.below.size
      have hszs:(w5.setCell ⟨pb,0,none⟩ (.slice a5 (n+1) c5)).heap.size=w5.heap.size:=by simp[World.setCell]
      have hnw:=news_b (w5.setCell ⟨pb,0,none⟩ (.slice a5 (n+1) c5)) (.int .i64 (n:Int)) 3
      rw[hszs]at hnw hsz5
      replace hszs:=Hd hszs
      replace hT5:=Hd hT5
      clear h1 h2 hT' hat0 x0 x1 f0 f1 hne0 e1 hlen0
      go_wp2_with (at_builtin;refine wpList_append_own _ rfl _ _ 52 rfl w.heap.size 3 i1 (.int .i64 0) 1 8 Tryz.underlying52 hi1.out hy0.out hy1.out hy2.out rfl (by decide) _ k (numsN P) rfl (hat5.alloc _) _ 1 _ [.int .i64 (n:Int)] rfl rfl hnw ?ta ?tb ?tc ?td ?te)
      case ta=>simp[Value.oneCell']
      case tb=>simp only[maxLen];omega
      case tc=>omega
      case td=>simp;omega
      case te=>
       intro v8 w8 h1 h2 _
       have hT8:=(hT5.out.alloc (.cells #[.int .i64 (n:Int)] 3)).place n (by rw[hal2.out];exact h1) h2
       rw[←hat.out]at hT8
       obtain⟨a8,c8,rfl⟩:=own_form4x h1
       have hne0:=own_ne hat5 hT5.out.b1 (by decide)
       have e1:Blk w8 pb _ _:=(h2.block pb (by rw[World.size_alloc];have:=hT5.out.b1.lt;omega) (fun e=>hne0 e.symm)).trans (hT5.out.b1.alloc (.cells #[.int .i64 (n:Int)] 3))
       have g1:=e1.cell 1 rfl
       have g2:=e1.free 1
       replace hT8:=Hd hT8
       clear h1 h2 hT5 hat5 k1 hne0 e1
       go_wp2
       go_roundw
       case rel=>exact⟨k+1,_,_,_,hk1.out,by go_num,by rw[hF2.out,hA2.out,hS2.out,hft.out,hsh.out];exact hT8⟩
       case measure=>have:=hk1.out;simp[intOf];omega
  ·have hki : ¬ (k : Int) < (B.vars.length : Int) := by omega
   obtain rfl:k=B.vars.length:=by omega
   have hal3:(atN A.vars B.vars).take B.vars.length=atN A.vars B.vars:=List.take_of_length_le (by unfold atN;rw[List.length_map];exact Nat.le_refl _)
   rw[List.take_length,hal3]at hT
   obtain⟨an,cn,rfl⟩:=own_form4x hT.out.names
   obtain⟨aa,ca,rfl⟩:=own_form4x hT.out.places
   obtain⟨asl,cs,rfl⟩:=own_form4x hT.out.pairs
   clear hal3
   obtain⟨qa,hqa⟩:∃q,mayT A=q:=⟨_,rfl⟩
   obtain⟨qb,hqb⟩:∃q,mayT B=q:=⟨_,rfl⟩
   rw[hqa]at cA
   rw[hqb]at cB
   replace hqa:=Hd hqa
   replace hqb:=Hd hqb
   have hlw:=hT.out.b1.lt
   go_upto_region 12 with fail
   have hdr:Below wr.heap.size wr wr.drew:=below_drewN (Below.refl _ _) 1
   have hT1:=hT.out.stay hdr
   refine wp_region_held_drew (S:=fun V=>JSeen w V #[.slice av A.vars.length cv,.slice ar A.rows.length cr] #[.slice av2 B.vars.length cv2,.slice ar2 B.rows.length cr2] pb (.slice an (B.vars.foldl addN A.vars).length cn) (.slice aa (atN A.vars B.vars).length ca) (.slice asl (shK A.vars B.vars B.vars.length).length cs)) (by kernel_rfl) hT1.seen (fun hS=>?_)
   generalize wr.drew=V0 at *
   replace hT1:=Hd hT1
   clear hT hdr
   refine tkS [0,1] ?_
   iterate 2
    refine tkC ?_ rfl (fun w' hS=>?_) hS ?_
    rotate_left
    ·
     have y0:=hS.1.cell 0 rfl;have y1:=hS.1.cell 1 rfl;have y2:=hS.2.1.cell 0 rfl;have y3:=hS.2.1.cell 1 rfl;have y4:=hS.2.2.cell 0 rfl;have y5:=hS.2.2.cell 1 rfl;have y6:=hS.2.2.cell 2 rfl
     go_simp
     try with_reducible rfl
   refine rdH 2 rfl (fun K hK=>?_)
   clear hS
   go_simp
   refine(cA.out V0 hT1.out.below).mono ?_
   rintro e w3 ⟨rfl,hb3⟩
   go_wp2_with fail
   refine hKo hK ((hT1.out.stay hb3).seen) (fun hS=>?_)
   clear hK K
   have hT3:=Hd (hT1.out.stay hb3)
   clear hT1 hb3 cA
   cases qa with
   | false =>
    have hjz:Hid (jokZ A B=false):=Hd (by unfold jokZ;rw[hqa.out];rfl)
    refine tkH 3 ?_ rfl (fun w' hS=>?_) hS ?_
    rotate_left
    ·
     skip
     go_simp
     try with_reducible rfl
    refine tkS [4,5] ?_
    iterate 2 (refine tkV rfl hS ?_)
    refine tkS [6,7] ?_
    iterate 2
     refine tkC ?_ rfl (fun w' hS=>?_) hS ?_
     rotate_left
     ·
      skip
      go_simp
      try with_reducible rfl
    refine tkS [8,9,10,11] ?_
    iterate 4 (refine tkV rfl hS ?_)
    refine tkH 12 ?_ rfl (fun w' hS=>?_) hS ?_
    rotate_left
    ·
     skip
     go_simp
     try with_reducible rfl
    refine rdH 13 rfl (fun K hK=>?_)
    clear hS
    have f1:=hT3.out.b0.free
    have z0:=hT3.out.b0.cell 0 rfl
    have z1:=hT3.out.b0.cell 1 rfl
    have z2:=hT3.out.b0.cell 2 rfl
    obtain⟨hfin,hJB,hse⟩:=hT3.out.done
    replace hfin:=Hd hfin
    replace hJB:=Hd hJB
    go_simp
    go_wp2_with fail
    refine hKo hK hse (fun hS=>?_)
    clear hK K hse f1 z0 z1 z2
    refine tkH 14 ?_ rfl (fun w' hS=>?_) hS ?_
    rotate_left
    ·
     skip
     go_simp
     try with_reducible rfl
    refine wpAnyH_done (by kernel_rfl) ?_ _
    clear hS
    go_wp2
    refine bodyPost_ret (v:=.tuple #[.agg #[.slice an (B.vars.foldl addN A.vars).length cn,.slice aa (atN A.vars B.vars).length ca,.slice asl (shK A.vars B.vars B.vars.length).length cs],.bool false]) (res2 rfl _ _ (w.heap.size+2) 55 _ (0,0) _ _ rfl rfl hfin.out.eq Tryz.underlying55 rfl infoBothJ) rfl ⟨_,by rw[hjz.out],hJB.out⟩
   | true =>
    refine tkS [3,4] ?_
    iterate 2
     refine tkC ?_ rfl (fun w' hS=>?_) hS ?_
     rotate_left
     ·
      have y0:=hS.1.cell 0 rfl;have y1:=hS.1.cell 1 rfl;have y2:=hS.2.1.cell 0 rfl;have y3:=hS.2.1.cell 1 rfl;have y4:=hS.2.2.cell 0 rfl;have y5:=hS.2.2.cell 1 rfl;have y6:=hS.2.2.cell 2 rfl
      go_simp
      try with_reducible rfl
    refine rdH 5 rfl (fun K hK=>?_)
    clear hS
    go_simp
    refine(cB.out w3 hT3.out.below).mono ?_
    rintro e w4 ⟨rfl,hb4⟩
    go_wp2_with fail
    refine hKo hK ((hT3.out.stay hb4).seen) (fun hS=>?_)
    clear hK K
    have hT4:=Hd (hT3.out.stay hb4)
    clear hT3 hb4 cB
    cases qb with
    | false =>
     have hjz:Hid (jokZ A B=false):=Hd (by unfold jokZ;rw[hqa.out,hqb.out];rfl)
     refine tkS [6,7] ?_
     iterate 2
      refine tkC ?_ rfl (fun w' hS=>?_) hS ?_
      rotate_left
      ·
       skip
       go_simp
       try with_reducible rfl
     refine tkS [8,9,10,11] ?_
     iterate 4 (refine tkV rfl hS ?_)
     refine tkH 12 ?_ rfl (fun w' hS=>?_) hS ?_
     rotate_left
     ·
      skip
      go_simp
      try with_reducible rfl
     refine rdH 13 rfl (fun K hK=>?_)
     clear hS
     have f1:=hT4.out.b0.free
     have z0:=hT4.out.b0.cell 0 rfl
     have z1:=hT4.out.b0.cell 1 rfl
     have z2:=hT4.out.b0.cell 2 rfl
     obtain⟨hfin,hJB,hse⟩:=hT4.out.done
     replace hfin:=Hd hfin
     replace hJB:=Hd hJB
     go_simp
     go_wp2_with fail
     refine hKo hK hse (fun hS=>?_)
     clear hK K hse f1 z0 z1 z2
     refine tkH 14 ?_ rfl (fun w' hS=>?_) hS ?_
     rotate_left
     ·
      skip
      go_simp
      try with_reducible rfl
     refine wpAnyH_done (by kernel_rfl) ?_ _
     clear hS
     go_wp2
     refine bodyPost_ret (v:=.tuple #[.agg #[.slice an (B.vars.foldl addN A.vars).length cn,.slice aa (atN A.vars B.vars).length ca,.slice asl (shK A.vars B.vars B.vars.length).length cs],.bool false]) (res2 rfl _ _ (w.heap.size+2) 55 _ (0,0) _ _ rfl rfl hfin.out.eq Tryz.underlying55 rfl infoBothJ) rfl ⟨_,by rw[hjz.out],hJB.out⟩
    | true =>
     by_cases h64:(B.vars.foldl addN A.vars).length≤64
     ·have hjz:Hid (jokZ A B=true):=Hd (by unfold jokZ;rw[hqa.out,hqb.out,decide_eq_true h64];rfl)
      have h64i:((B.vars.foldl addN A.vars).length:Int)≤64:=by omega
      refine tkS [6,7,8,9,10,11,12] ?_
      iterate 7
       refine tkC ?_ rfl (fun w' hS=>?_) hS ?_
       rotate_left
       ·
        have y0:=hS.1.cell 0 rfl;have y1:=hS.1.cell 1 rfl;have y2:=hS.2.1.cell 0 rfl;have y3:=hS.2.1.cell 1 rfl;have y4:=hS.2.2.cell 0 rfl;have y5:=hS.2.2.cell 1 rfl;have y6:=hS.2.2.cell 2 rfl
        go_simp
        try with_reducible rfl
      refine rdH 13 rfl (fun K hK=>?_)
      clear hS
      have f1:=hT4.out.b0.free
      have z0:=hT4.out.b0.cell 0 rfl
      have z1:=hT4.out.b0.cell 1 rfl
      have z2:=hT4.out.b0.cell 2 rfl
      obtain⟨hfin,hJB,hse⟩:=hT4.out.done
      replace hfin:=Hd hfin
      replace hJB:=Hd hJB
      go_simp
      go_wp2_with fail
      refine hKo hK hse (fun hS=>?_)
      clear hK K hse f1 z0 z1 z2
      refine tkH 14 ?_ rfl (fun w' hS=>?_) hS ?_
      rotate_left
      ·
       skip
       go_simp
       try with_reducible rfl
      refine wpAnyH_done (by kernel_rfl) ?_ _
      clear hS
      go_wp2
      refine bodyPost_ret (v:=.tuple #[.agg #[.slice an (B.vars.foldl addN A.vars).length cn,.slice aa (atN A.vars B.vars).length ca,.slice asl (shK A.vars B.vars B.vars.length).length cs],.bool true]) (res2 rfl _ _ (w.heap.size+2) 55 _ (0,0) _ _ rfl rfl hfin.out.eq Tryz.underlying55 rfl infoBothJ) rfl ⟨_,by rw[hjz.out],hJB.out⟩
     ·have hjz:Hid (jokZ A B=false):=Hd (by unfold jokZ;rw[hqa.out,hqb.out,decide_eq_false h64];rfl)
      have h64i:¬((B.vars.foldl addN A.vars).length:Int)≤64:=by omega
      refine tkS [6,7,8,9,10,11,12] ?_
      iterate 7
       refine tkC ?_ rfl (fun w' hS=>?_) hS ?_
       rotate_left
       ·
        have y0:=hS.1.cell 0 rfl;have y1:=hS.1.cell 1 rfl;have y2:=hS.2.1.cell 0 rfl;have y3:=hS.2.1.cell 1 rfl;have y4:=hS.2.2.cell 0 rfl;have y5:=hS.2.2.cell 1 rfl;have y6:=hS.2.2.cell 2 rfl
        go_simp
        try with_reducible rfl
      refine rdH 13 rfl (fun K hK=>?_)
      clear hS
      have f1:=hT4.out.b0.free
      have z0:=hT4.out.b0.cell 0 rfl
      have z1:=hT4.out.b0.cell 1 rfl
      have z2:=hT4.out.b0.cell 2 rfl
      obtain⟨hfin,hJB,hse⟩:=hT4.out.done
      replace hfin:=Hd hfin
      replace hJB:=Hd hJB
      go_simp
      go_wp2_with fail
      refine hKo hK hse (fun hS=>?_)
      clear hK K hse f1 z0 z1 z2
      refine tkH 14 ?_ rfl (fun w' hS=>?_) hS ?_
      rotate_left
      ·
       skip
       go_simp
       try with_reducible rfl
      refine wpAnyH_done (by kernel_rfl) ?_ _
      clear hS
      go_wp2
      refine bodyPost_ret (v:=.tuple #[.agg #[.slice an (B.vars.foldl addN A.vars).length cn,.slice aa (atN A.vars B.vars).length ca,.slice asl (shK A.vars B.vars B.vars.length).length cs],.bool false]) (res2 rfl _ _ (w.heap.size+2) 55 _ (0,0) _ _ rfl rfl hfin.out.eq Tryz.underlying55 rfl infoBothJ) rfl ⟨_,by rw[hjz.out],hJB.out⟩
end Go.Proofs.YtmpldjbdhbapbaaGreatDoor.tab
