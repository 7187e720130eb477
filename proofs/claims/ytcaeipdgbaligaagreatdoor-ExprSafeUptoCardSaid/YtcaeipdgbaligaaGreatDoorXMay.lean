/- Texts XCopied, VCopy, XMay, one behind the other. -/
import Derived.Test.YtcaeipdgbaligaaGreatDoorRegLate
set_option linter.unusedSimpArgs false
set_option linter.unusedVariables false
set_option maxRecDepth 100000
set_option maxHeartbeats 2000000
namespace Go.Proofs.YtcaeipdgbaligaaGreatDoor.ex
open Go.ChangeShapes Go.WideShapes Go.ChangeAt Go.RowKit kit dec val
def CopdE(N m:Nat):Prop:=∀(w:World) (k:Int) (b:Bool) (n:Int) (t x:ByteArray) (s:Value) (l:List V),SizeOf.sizeOf l<m→LA w N s l →
 Calls Tryz.prog 54 #[agg6 k b n t x s] w fun e w'=>∃ao cap,e=.returned (agg6 k b n t x (.slice ao l.length cap))∧Below w.heap.size w w'∧LF w' N (Fr w.heap.size w') (.slice ao l.length cap) l
theorem xcopied_all(N:Nat)(hN:N≤1048576):∀m,CopdE N m:=by
 intro m
 induction m with
 |zero=>intro w k b n t x s l hm;omega
 | succ m ih =>
  intro w k b n t x s l hm ha
  obtain⟨ao,cap,rfl⟩:=ha.form6
  have hNl:=(ha.elems _ _ _ rfl).1
  replace ih:=Hd ih
  have hli:(l.length:Int)≤9223372036854775807:=by omega
  replace ha:=Hd ha
  go_enter Tryz.func54,Tryz.ntmps54
  unfold agg6
  go_wp2
  go_loopw [11] (fun v wr=>∃(i:Nat) (sv:Value),i≤l.length∧v=.int .i64 i∧Hid (LF wr N (Fr (w.heap.size+2) wr) sv (l.take i))∧Hid (Blk wr w.heap.size #[.int .i64 k,.bool b,.int .i64 n,.string t,.string x,sv] 38)∧Hid (Blk wr (w.heap.size+1) #[.int .i64 0,.bool false,.int .i64 0,.string ByteArray.empty,.string ByteArray.empty,.slice none 0 0] 38)∧Hid (Below w.heap.size w wr)∧w.heap.size+2≤wr.heap.size) (fun v _=>l.length-(intOf v).toNat)
  case atStart=>
   have hq0:=(Blk.new w #[.int .i64 k,.bool b,.int .i64 n,.string t,.string x,.slice none 0 0] 38).alloc (.cells #[.int .i64 0,.bool false,.int .i64 0,.string ByteArray.empty,.string ByteArray.empty,.slice none 0 0] 38)
   have hq1:=Blk.new (w.alloc (.cells #[.int .i64 k,.bool b,.int .i64 n,.string t,.string x,.slice none 0 0] 38)) #[.int .i64 0,.bool false,.int .i64 0,.string ByteArray.empty,.string ByteArray.empty,.slice none 0 0] 38
   rw[World.size_alloc]at hq1
   exact⟨0,_,by omega,rfl,LF.nil _ _ _,hq0,hq1,((Below.refl _ _).alloc (Nat.le_refl _) _).alloc (by rw[World.size_alloc];omega) _,by rw[World.size_alloc,World.size_alloc];omega⟩
  case round=>
   obtain⟨i,sv,hi,rfl,hlf,hq0,hq1,hb,hsz⟩:=hrel
   obtain⟨w0,rfl⟩:∃w0:World,w0=wr:=⟨_,rfl⟩
   by_cases hlt:i<l.length
   ·have hki:(i:Int)<(l.length:Int):=by omega
    obtain⟨b1,off,k1,bo,n1,t1,x1,l1,aoE,capE,rfl,he,hr,hok,hsl⟩:=la_at (ha.out.stay hb.out) i hlt
    have hmem:SizeOf.sizeOf l[i]<SizeOf.sizeOf l:=List.sizeOf_lt_of_mem (List.getElem_mem _)
    rw[he]at hmem
    have hm1:SizeOf.sizeOf l1<m:=by simp at hmem;omega
    have htk:=List.take_succ_eq_append_getElem hlt
    rw[he]at htk
    replace htk:=Hd htk
    obtain⟨x0,x1a,x2,x3,x4,x5⟩:=hr.six
    clear hmem hr he
    go_upto_region 6 with fail
    clear x0 x1a x2 x3 x4 x5
    have hal:Below w0.heap.size w0 (w0.alloc (.cells #[.int .i64 k1,.bool bo,.int .i64 n1,.string t1,.string x1,.slice aoE l1.length capE] 38)).drew:=((Below.refl _ _).alloc (Nat.le_refl _) _).drew
    have hE:=(Blk.new w0 #[.int .i64 k1,.bool bo,.int .i64 n1,.string t1,.string x1,.slice aoE l1.length capE] 38).drewN 1
    have hS0:Blk (w0.alloc (.cells #[.int .i64 k1,.bool bo,.int .i64 n1,.string t1,.string x1,.slice aoE l1.length capE] 38)).drew w.heap.size #[.int .i64 k,.bool b,.int .i64 n,.string t,.string x,sv] 38∧Blk (w0.alloc (.cells #[.int .i64 k1,.bool bo,.int .i64 n1,.string t1,.string x1,.slice aoE l1.length capE] 38)).drew w0.heap.size #[.int .i64 k1,.bool bo,.int .i64 n1,.string t1,.string x1,.slice aoE l1.length capE] 38:=⟨(hq0.out.alloc _).drewN 1,hE⟩
    have hlfV:=hlf.out.stay fun b hS hlt=>hal.block b hlt
    have hslV:=hsl.stay hal
    have hq1V:=(hq1.out.alloc (.cells #[.int .i64 k1,.bool bo,.int .i64 n1,.string t1,.string x1,.slice aoE l1.length capE] 38)).drewN 1
    have hbV:=hb.out.trans (hal.mono hb.out.size)
    have hsV:=hal.size
    refine wp_region_late [7] (S:=fun V=>Blk V w.heap.size #[.int .i64 k,.bool b,.int .i64 n,.string t,.string x,sv] 38∧Blk V w0.heap.size #[.int .i64 k1,.bool bo,.int .i64 n1,.string t1,.string x1,.slice aoE l1.length capE] 38) (by kernel_rfl) hS0 (fun hS=>?_)
    have hV:=hS0
    clear hS0 hal hE hsl hq0 hq1 hb hlf
    have hq1V':Blk (w0.alloc (.cells #[.int .i64 k1,.bool bo,.int .i64 n1,.string t1,.string x1,.slice aoE l1.length capE] 38)).drew (w.heap.size+1) #[.int .i64 0,.bool false,.int .i64 0,.string ByteArray.empty,.string ByteArray.empty,.slice none 0 0] 38:=hq1V
    clear hq1V
    generalize (w0.alloc (.cells #[.int .i64 k1,.bool bo,.int .i64 n1,.string t1,.string x1,.slice aoE l1.length capE] 38)).drew=V0 at *
    have hcall:=ih.out V0 k1 bo n1 t1 x1 _ l1 hm1 hslV
    unfold agg6 at hcall
    replace hcall:=Hd hcall
    refine tlH 0 ?_ rfl (fun w' hS=>?_) hS ?_
    rotate_left
    ·
     skip
     go_simp
     try with_reducible rfl
    refine tlH 1 ?_ rfl (fun w' hS=>?_) hS ?_
    rotate_left
    ·
     have x0:=hS.1.cell 0 rfl
     have x1:=hS.1.cell 1 rfl
     have x2:=hS.1.cell 2 rfl
     have x3:=hS.1.cell 3 rfl
     have x4:=hS.1.cell 4 rfl
     have x5:=hS.1.cell 5 rfl
     go_simp
     try with_reducible rfl
    refine tlH 2 ?_ rfl (fun w' hS=>?_) hS ?_
    rotate_left
    ·
     have x0:=hS.2.cell 0 rfl
     have x1:=hS.2.cell 1 rfl
     have x2:=hS.2.cell 2 rfl
     have x3:=hS.2.cell 3 rfl
     have x4:=hS.2.cell 4 rfl
     have x5:=hS.2.cell 5 rfl
     go_simp
     try with_reducible rfl
    refine wpAnyL_ready (i:=3) (by kernel_rfl) rfl (fun K hK=>?_)
    clear hS
    go_simp
    refine(hcall.out).mono ?_
    rintro e w5 ⟨ao2,cap2,rfl,hb5,hl5⟩
    go_wp2_with fail
    refine hKo hK (⟨hV.1.keep (Keep.ofBelow hb5) (by simp),hV.2.keep (Keep.ofBelow hb5) (by simp)⟩) (fun hS=>?_)
    clear hK K
    have hV5:Blk w5 w.heap.size _ _∧Blk w5 w0.heap.size _ _:=⟨hV.1.keep (Keep.ofBelow hb5) (by simp),hV.2.keep (Keep.ofBelow hb5) (by simp)⟩
    have hlf5:=hlfV.stay fun b hS hlt=>hb5.block b hlt
    have hq5:Blk w5 (w.heap.size+1) _ _:=hq1V'.keep (Keep.ofBelow hb5) (by simp)
    have hb5':=hbV.trans (hb5.mono hbV.size)
    have hs5:=hb5.size
    clear hcall hV hlfV hq1V' hslV
    refine wpAnyL_ready (i:=4) (by kernel_rfl) rfl (fun K hK=>?_)
    clear hS
    go_simp
    go_wp2_with fail
    have hal:=((Below.refl w5.heap.size w5).alloc (Nat.le_refl _) (.cells (six (.mk k1 bo n1 t1 x1 l1) (.slice ao2 l1.length cap2)).toArray 38))
    have hV6:=(⟨hV5.1.alloc _,hV5.2.alloc _⟩:Blk (w5.alloc (.cells (six (.mk k1 bo n1 t1 x1 l1) (.slice ao2 l1.length cap2)).toArray 38)) w.heap.size _ _∧Blk (w5.alloc (.cells (six (.mk k1 bo n1 t1 x1 l1) (.slice ao2 l1.length cap2)).toArray 38)) w0.heap.size _ _)
    have hq6:=hq5.alloc (.cells (six (.mk k1 bo n1 t1 x1 l1) (.slice ao2 l1.length cap2)).toArray 38)
    have hn6:=Blk.new w5 (six (.mk k1 bo n1 t1 x1 l1) (.slice ao2 l1.length cap2)).toArray 38
    have hlf6:=hlf5.stay fun b hS hlt=>hal.block b hlt
    have hl6:=hl5.stay fun b hS hlt=>hal.block b hlt
    have hb6:=hb5'.trans (hal.mono hb5'.size)
    have hs6:=World.size_alloc w5 (.cells (six (.mk k1 bo n1 t1 x1 l1) (.slice ao2 l1.length cap2)).toArray 38)
    refine hKo hK hV6 (fun hS=>?_)
    clear hK K hV5 hq5 hlf5 hl5 hb5' hal
    refine wpAnyL_ready (i:=5) (by kernel_rfl) rfl (fun K hK=>?_)
    clear hS
    refine wp_push1 (.tmp 16) (.tmp 19) rfl N hN (Fr (w.heap.size+2) w0) (Fr V0.heap.size w5) sv (l.take i) rfl hlf6 ?d2 w5.heap.size (.mk k1 bo n1 t1 x1 l1) (.slice ao2 l1.length cap2) rfl hn6 hl6 ?d3 hok ?d4 ?d5
    case d2=>intro b hb;rw[World.size_alloc];have:=hb.2;omega
    case d3=>intro b hb;exact⟨by rw[World.size_alloc];have:=hb.2;omega,fun h=>by have:=h.2;have:=hb.1;omega⟩
    case d4=>rw[List.length_take];omega
    case d5=>
     intro v' w' hlf' hg hvS
     have hV7:=(⟨(hg.block _ hV6.1.lt (fun e=>by have:=(hvS _ e.symm).1;omega)).trans hV6.1,(hg.block _ hV6.2.lt (fun e=>by have:=(hvS _ e.symm).2;omega)).trans hV6.2⟩:Blk w' w.heap.size _ _∧Blk w' w0.heap.size _ _)
     have hq7:Blk w' (w.heap.size+1) _ _:=(hg.block _ hq6.lt (fun e=>by have:=(hvS _ e.symm).1;omega)).trans hq6
     have hb7:=hb6.grown hg hb6.size (fun g e=>by have:=(hvS _ e).1;omega)
     have hs7:=hg.size
     rw[World.size_alloc]at hs7
     have hlf7:=hlf'.mono (S':=Fr (w.heap.size+2) w') (by
      rintro b (hb|hb|hb)
      ·exact⟨hb.1,by have:=hb.2;omega⟩
      ·exact⟨by have:=hb.1;omega,by have:=hb.2;omega⟩
      ·exact⟨by have:=hb.1;rw[World.size_alloc]at this;omega,hb.2⟩)
     have hlen7:(l.take i++[V.mk k1 bo n1 t1 x1 l1]).length=i+1:=by rw[List.length_append,List.length_take];simp;omega
     obtain⟨ao7,cap7,rfl,_⟩:=hlf7.form
     refine hKo hK hV7 (fun hS=>?_)
     clear hK K hV6 hq6 hlf6 hl6 hb6 hn6 hlf' hg hvS
     refine tlH 6 ?_ rfl (fun w' hS=>?_) hS ?_
     rotate_left
     ·
      skip
      go_simp
      try with_reducible rfl
     refine wpAnyL_late (i:=7) (by kernel_rfl) rfl (by kernel_rfl) (fun K hK=>?_)
     clear hS
     have f0:=hV7.1.free 5
     have x0:=hV7.1.cell 0 rfl
     have x1:=hV7.1.cell 1 rfl
     have x2:=hV7.1.cell 2 rfl
     have x3:=hV7.1.cell 3 rfl
     have x4:=hV7.1.cell 4 rfl
     have x5:=hV7.1.cell 5 rfl
     go_simp
     go_wp2_with fail
     refine hK.out _ _ ?_
     clear hK K x0 x1 x2 x3 x4 x5 f0
     try simp only[List.getElem_toArray,List.getElem_cons_succ,List.getElem_cons_zero,Act.put,List.setIfInBounds_toArray,List.set_cons_zero,List.set_cons_succ]
     refine wpAnyL_done (by kernel_rfl) ?_ _
     have hq8:=Hd (hq7.set_other ⟨w.heap.size,5,none⟩ (by simp) (.slice ao7 (i+1) cap7))
     have hV8:=Hd (hV7.1.set 5 (.slice ao7 (i+1) cap7))
     have hlf8:=Hd ((hlf7.setCell ⟨w.heap.size,5,none⟩ (fun h=>by have:=h.1;simp at this;omega) (.slice ao7 (i+1) cap7)).mono (S':=Fr (w.heap.size+2) (w'.setCell ⟨w.heap.size,5,none⟩ (.slice ao7 (i+1) cap7))) fun b hb=>⟨hb.1,by have:=hb.2;simpa only[World.setCell,Array.size_modify]using this⟩)
     rw[hlen7]at hlf8
     have hb8:=Hd (hb7.setCell (p:=⟨w.heap.size,5,none⟩) (Nat.le_refl _) (.slice ao7 (i+1) cap7))
     clear hq7 hV7 hlf7 hb7
     clear hlen7
     go_wp2
     go_roundw
     case rel=>exact⟨i+1,_,by omega,by go_num,by rw[htk.out];exact hlf8,hV8,hq8,hb8,by simp[World.setCell];omega⟩
     case measure=>simp[intOf];omega
   ·have hki:¬(i:Int)<(l.length:Int):=by omega
    obtain rfl:i=l.length:=by omega
    have hl3:=hlf.out
    rw[List.take_length]at hl3
    obtain⟨ao3,cap3,rfl,_⟩:=hl3.form
    have x0:=hq0.out.cell 0 rfl
    have x1:=hq0.out.cell 1 rfl
    have x2:=hq0.out.cell 2 rfl
    have x3:=hq0.out.cell 3 rfl
    have x4:=hq0.out.cell 4 rfl
    have x5:=hq0.out.cell 5 rfl
    have y0:=hq1.out.cell 0 rfl
    have y1:=hq1.out.cell 1 rfl
    have y2:=hq1.out.cell 2 rfl
    have y3:=hq1.out.cell 3 rfl
    have y4:=hq1.out.cell 4 rfl
    have y5:=hq1.out.cell 5 rfl
    have f1:=hq1.out.free
    replace hl3:=Hd hl3
    clear hlf
    go_wp2
    have hfin:=Blk.set6 hq1.out (.int .i64 k) (.bool b) (.int .i64 n) (.string t) (.string x) (.slice ao3 l.length cap3)
    have hlf:=hl3.out.set6 (w.heap.size+1) (fun h=>by have:=h.1;omega) (.int .i64 k) (.bool b) (.int .i64 n) (.string t) (.string x) (.slice ao3 l.length cap3)
    have hbf:=Below.set6 hb.out (b:=w.heap.size+1) (Nat.le_succ _) (.int .i64 k) (.bool b) (.int .i64 n) (.string t) (.string x) (.slice ao3 l.length cap3)
    refine bodyPost_ret (v:=agg6 k b n t x (.slice ao3 l.length cap3)) (results_cell_row rfl _ _ (w.heap.size+1) 38 _ (0,0) _ rfl hfin.eq Tryz.underlying38 rfl infoV6) rfl ⟨ao3,cap3,rfl,hbf,hlf.mono fun b hb=>⟨by have:=hb.1;omega,by have:=hb.2;simpa only[World.setCell,Array.size_modify]using this⟩⟩
end Go.Proofs.YtcaeipdgbaligaaGreatDoor.ex
set_option linter.unusedSimpArgs false
set_option linter.unusedVariables false
set_option maxRecDepth 100000
set_option maxHeartbeats 2000000
namespace Go.Proofs.YtcaeipdgbaligaaGreatDoor.val
open Go.ChangeShapes Go.WideShapes Go.ChangeAt Go.RowKit kit dec
def CopyX(N m:Nat):Prop:=∀(w:World) (s:Value) (l:List V),SizeOf.sizeOf l<m→LA w N s l →
 Calls Tryz.prog 117 #[s] w fun e w'=>∃ao cap,e=.returned (.slice ao l.length cap)∧Below w.heap.size w w'∧LF w' N (Fr w.heap.size w') (.slice ao l.length cap) l
theorem copyValue_of(N m:Nat)(hc:CopyX N m)(w:World)(k:Int)(b:Bool)(n:Int)(t x:ByteArray)(s:Value)(l:List V)(hm:SizeOf.sizeOf l<m)(ha:LA w N s l):
 Calls Tryz.prog 80 #[agg6 k b n t x s] w fun e w'=>∃ao cap,e=.returned (agg6 k b n t x (.slice ao l.length cap))∧Below w.heap.size w w'∧LF w' N (Fr w.heap.size w') (.slice ao l.length cap) l:=by
 obtain⟨ao0,cap0,rfl⟩:=ha.form6
 have hbl:Below w.heap.size w ((w.alloc (.cells #[.int .i64 k,.bool b,.int .i64 n,.string t,.string x,.slice ao0 l.length cap0] 38)).alloc (.cells #[.int .i64 0,.bool false,.int .i64 0,.string ByteArray.empty,.string ByteArray.empty,.slice none 0 0] 38)):=
  ((Below.refl _ _).alloc (Nat.le_refl _) _).alloc (by rw[World.size_alloc];omega) _
 have hq0:Blk ((w.alloc (.cells #[.int .i64 k,.bool b,.int .i64 n,.string t,.string x,.slice ao0 l.length cap0] 38)).alloc (.cells #[.int .i64 0,.bool false,.int .i64 0,.string ByteArray.empty,.string ByteArray.empty,.slice none 0 0] 38)) w.heap.size #[.int .i64 k,.bool b,.int .i64 n,.string t,.string x,.slice ao0 l.length cap0] 38:=(Blk.new _ _ _).alloc _
 have hcall:=Hd (hc _ _ l hm (ha.stay hbl))
 clear hc
 go_enter Tryz.func80,Tryz.ntmps80
 unfold agg6
 go_wp2_with fail
 refine(hcall.out).mono ?_
 rintro e w2 ⟨ao,cap,rfl,hb2,hl2⟩
 have hq1:=Blk.new (w.alloc (.cells #[.int .i64 k,.bool b,.int .i64 n,.string t,.string x,.slice ao0 l.length cap0] 38)) #[.int .i64 0,.bool false,.int .i64 0,.string ByteArray.empty,.string ByteArray.empty,.slice none 0 0] 38
 rw[World.size_alloc]at hq1
 have hq02:Blk w2 w.heap.size _ _:=(hb2.block _ hq0.lt).trans hq0
 have hq12:Blk w2 (w.heap.size+1) _ _:=(hb2.block _ hq1.lt).trans hq1
 have hB2:=Hd (hbl.trans (hb2.mono hbl.size))
 have hsz:Hid (w.heap.size+2≤w2.heap.size):=Hd (by have:=hb2.size;rw[World.size_alloc,World.size_alloc]at this;omega)
 rw[World.size_alloc,World.size_alloc]at hl2
 replace hl2:=Hd hl2
 clear hbl hq0 hq1 hcall hb2
 have x0:=hq02.cell 0 rfl
 have x1:=hq02.cell 1 rfl
 have x2:=hq02.cell 2 rfl
 have x3:=hq02.cell 3 rfl
 have x4:=hq02.cell 4 rfl
 have x5:=hq02.cell 5 rfl
 have y0:=hq12.cell 0 rfl
 have y1:=hq12.cell 1 rfl
 have y2:=hq12.cell 2 rfl
 have y3:=hq12.cell 3 rfl
 have y4:=hq12.cell 4 rfl
 have y5:=hq12.cell 5 rfl
 have f0:=hq02.free 5
 have f1:=hq12.free
 replace hq02:=Hd hq02
 replace hq12:=Hd hq12
 go_wp2
 have hfin:=Blk.set6 (hq12.out.set_other ⟨w.heap.size,5,none⟩ (by simp) (.slice ao l.length cap)) (.int .i64 k) (.bool b) (.int .i64 n) (.string t) (.string x) (.slice ao l.length cap)
 have hlf:=(hl2.out.setCell ⟨w.heap.size,5,none⟩ (fun h=>by have:=h.1;simp at this;omega) (.slice ao l.length cap)).set6 (w.heap.size+1) (fun h=>by have:=h.1;omega) (.int .i64 k) (.bool b) (.int .i64 n) (.string t) (.string x) (.slice ao l.length cap)
 have hbf:=Below.set6 (hB2.out.setCell (p:=⟨w.heap.size,5,none⟩) (Nat.le_refl _) (.slice ao l.length cap)) (Nat.le_succ _) (.int .i64 k) (.bool b) (.int .i64 n) (.string t) (.string x) (.slice ao l.length cap)
 refine bodyPost_ret (v:=agg6 k b n t x (.slice ao l.length cap)) (results_cell_row rfl _ _ (w.heap.size+1) 38 _ (0,0) _ rfl hfin.eq Tryz.underlying38 rfl infoV6) rfl ⟨ao,cap,rfl,hbf,hlf.mono fun b hb=>⟨by have:=hb.1;omega,by have:=hb.2;simpa only[World.setCell,Array.size_modify]using this⟩⟩
theorem copyRow_all(N:Nat)(hN:N≤1048576):∀m,CopyX N m:=by
 intro m
 induction m with
 |zero=>intro w s l hm;omega
 | succ m ih =>
  intro w s l hm ha
  obtain⟨ao,cap,rfl⟩:=ha.form6
  have hNl:=(ha.elems _ _ _ rfl).1
  replace ih:=Hd ih
  replace ha:=Hd ha
  have hli:(l.length:Int)≤9223372036854775807:=by omega
  go_enter Tryz.func117,Tryz.ntmps117
  go_wp2
  go_loopw [3,4] (fun v3 v wr=>∃k:Nat,k≤l.length∧v=.int .i64 k∧Hid (LF wr N (Fr w.heap.size wr) v3 (l.take k))∧Hid (Below w.heap.size w wr)) (fun _ v _=>l.length-(intOf v).toNat)
  case atStart=>exact⟨0,by omega,rfl,LF.nil _ _ _,Below.refl _ _⟩
  case round=>
   obtain⟨k,hk,rfl,hlf,hb⟩:=hrel
   obtain⟨w0,rfl⟩:∃w0:World,w0=wr:=⟨_,rfl⟩
   by_cases hlt:k<l.length
   ·have hki:(k:Int)<(l.length:Int):=by omega
    obtain⟨b,off,k1,bo,n,t,x,l1,aoE,capE,rfl,he,hr,hok,hsl⟩:=la_at (ha.out.stay hb.out) k hlt
    have hmem:SizeOf.sizeOf l[k]<SizeOf.sizeOf l:=List.sizeOf_lt_of_mem (List.getElem_mem _)
    rw[he]at hmem
    have hm1:SizeOf.sizeOf l1<m:=by simp at hmem;omega
    have htk:=List.take_succ_eq_append_getElem hlt
    rw[he]at htk
    have hcall:=copyValue_of N m ih.out w0 k1 bo n t x _ l1 hm1 hsl
    unfold agg6 at hcall
    replace hcall:=Hd hcall
    replace htk:=Hd htk
    obtain⟨x0,x1,x2,x3,x4,x5⟩:=hr.six
    clear hmem hr he
    go_wp2_with fail
    refine(hcall.out).mono ?_
    rintro e w2 ⟨ao2,cap2,rfl,hb2,hl2⟩
    have hlf2:=(hlf.out.stay (w':=w2) fun b hS hlt=>hb2.block b hlt).stay (w':=w2.alloc (.cells (six (.mk k1 bo n t x l1) (.slice ao2 l1.length cap2)).toArray 38)) fun b hS hlt=>Below.heap_alloc w2 _ b hlt
    have hl3:=Hd (hl2.stay (w':=w2.alloc (.cells (six (.mk k1 bo n t x l1) (.slice ao2 l1.length cap2)).toArray 38)) fun b hS hlt=>Below.heap_alloc w2 _ b hlt)
    have hsz2:=hb2.size
    have hown:=hb.out.size
    have hnw:=news_six w2 (.mk k1 bo n t x l1) (.slice ao2 l1.length cap2) 38
    replace hb2:=Hd hb2
    clear hl2
    replace hlf2:=Hd hlf2
    replace hnw:=Hd hnw
    clear hcall x0 x1 x2 x3 x4 x5 hlf hsl
    go_wp2_with (at_builtin;refine wpList_push rfl _ _ rfl N hN (Fr w.heap.size w0) _ (l.take k) rfl hlf2.out ?c2 _ 1 1 [(.mk k1 bo n t x l1,.slice ao2 l1.length cap2)] (fun j b=>j=0∧Fr w0.heap.size w2 b) rfl rfl hnw.out ?c3 ?c4 ?c5 ?c6 ?c7 ?c8)
    case c2=>intro b hb;have:=hb.2;rw[World.size_alloc];omega
    case c3=>exact one_child hl3.out
    case c4=>rintro j b ⟨_,hb⟩;exact⟨by rw[World.size_alloc];have:=hb.2;omega,fun h=>by have:=h.2;have:=hb.1;omega⟩
    case c5=>rintro i j b ⟨hi,_⟩ ⟨hj,_⟩;omega
    case c6=>exact one_ok hok
    case c7=>rw[List.length_take,List.length_singleton];omega
    case c8=>
     intro v' w' hlf' hg hvS
     have hsz':=hg.size
     rw[World.size_alloc]at hsz'
     have hlf3:=Hd (hlf'.mono (S':=Fr w.heap.size w') (by
      rintro b (hb|hb|hb)
      ·exact⟨hb.1,by have:=hb.2;omega⟩
      ·exact⟨by have:=hb.1;omega,by have:=hb.2;omega⟩
      ·exact⟨by have:=hb.1;omega,hb.2⟩))
     have hb3:=Hd (Below.grown ((hb.out.trans (hb2.out.mono hown)).alloc (by omega) (.cells (six (.mk k1 bo n t x l1) (.slice ao2 l1.length cap2)).toArray 38)) hg (by rw[World.size_alloc];omega) (fun g hgk=>(hvS g hgk).1))
     clear hlf' hg hvS hlf2 hl3 hnw hb2 hb
     go_wp2
     go_roundw
     case rel=>
      exact⟨k+1,by omega,by go_num,by rw[htk.out];exact hlf3,hb3⟩
     case measure=>simp[intOf];omega
   ·have hki:¬(k:Int)<(l.length:Int):=by omega
    obtain rfl:k=l.length:=by omega
    have hl3:=hlf.out
    rw[List.take_length]at hl3
    obtain⟨ao3,cap3,rfl,_⟩:=hl3.form
    replace hl3:=Hd hl3
    clear hlf
    go_wp2
    go_ret
    exact⟨ao3,cap3,rfl,hb.out,hl3.out⟩
end Go.Proofs.YtcaeipdgbaligaaGreatDoor.val
set_option linter.unusedSimpArgs false
set_option linter.unusedVariables false
set_option maxHeartbeats 2000000
namespace Go.Proofs.YtcaeipdgbaligaaGreatDoor.ex
open Go.ChangeShapes Go.WideShapes Go.ChangeAt Go.RowKit kit dec val tab
open hyp (RowA TextsA textsV textsV_length)
set_option maxRecDepth 100000
def VaP(bx:Bool)(w:World)(e:Ending)(w':World):Prop:=∃k b n t x ao cap l,e=.returned (agg6 k b n t x (.slice ao l.length cap))∧Below w.heap.size w w'∧LF w' 1048576 (Fr w.heap.size w') (.slice ao l.length cap) l∧okV 1048576 (.mk k b n t x l)∧mayV (.mk k b n t x l)=true∧(bx=true→k=0∨k=1)
theorem ok_small(k:Int)(h0:0≤k)(h1:k≤10)(b:Bool):okV 1048576 (.mk k b 0 ⟨#[]⟩ ⟨#[]⟩ []):=by
 refine⟨⟨by omega,by omega⟩,⟨by omega,by omega⟩,?_,?_⟩
 ·show(0:Nat)≤1048576
  omega
 ·show(0:Nat)≤1048576
  omega
theorem xmay_any(w:World)(hE:Env w)(k:Int)(b:Bool)(n:Int)(t x:ByteArray)(ao:Option Addr)(cap:Nat)(l:List V)(ha:LA w 1048576 (.slice ao l.length cap) l)(hok:okV 1048576 (.mk k b n t x l)):
 Calls Tryz.prog 55 #[agg6 k b n t x (.slice ao l.length cap)] w (VaP false w):=by
 have hq0:=(Blk.new w #[.int .i64 k,.bool b,.int .i64 n,.string t,.string x,.slice ao l.length cap] 38).alloc (.cells #[.int .i64 0,.bool false,.int .i64 0,.string ⟨#[]⟩,.string ⟨#[]⟩,.slice none 0 0] 38)
 have hq1:=Blk.new (w.alloc (.cells #[.int .i64 k,.bool b,.int .i64 n,.string t,.string x,.slice ao l.length cap] 38)) #[.int .i64 0,.bool false,.int .i64 0,.string ⟨#[]⟩,.string ⟨#[]⟩,.slice none 0 0] 38
 rw[World.size_alloc]at hq1
 have hal:Below w.heap.size w ((w.alloc (.cells #[.int .i64 k,.bool b,.int .i64 n,.string t,.string x,.slice ao l.length cap] 38)).alloc (.cells #[.int .i64 0,.bool false,.int .i64 0,.string ⟨#[]⟩,.string ⟨#[]⟩,.slice none 0 0] 38)):=((Below.refl _ _).alloc (Nat.le_refl _) _).alloc (by rw[World.size_alloc];omega) _
 have cV:=check_any 1048576 (by omega) _ (hE.below hal) k b n t x _ l (ha.stay hal) hok.2.2.1 hok.2.2.2
 have cC:=fun W (h:Below w.heap.size w W)=>xcopied_all 1048576 (by omega) (SizeOf.sizeOf l+1) W k b n t x _ l (Nat.lt_succ_self _) (ha.stay h)
 unfold agg6 at cV cC ⊢
 obtain⟨m,hm⟩:∃m,mayV (.mk k b n t x l)=m:=⟨_,rfl⟩
 rw[hm]at cV
 have y0:=hq0.cell 0 rfl
 have y1:=hq0.cell 1 rfl
 have y2:=hq0.cell 2 rfl
 have y3:=hq0.cell 3 rfl
 have y4:=hq0.cell 4 rfl
 have y5:=hq0.cell 5 rfl
 have hsz:((w.alloc (.cells #[.int .i64 k,.bool b,.int .i64 n,.string t,.string x,.slice ao l.length cap] 38)).alloc (.cells #[.int .i64 0,.bool false,.int .i64 0,.string ⟨#[]⟩,.string ⟨#[]⟩,.slice none 0 0] 38)).heap.size=w.heap.size+2:=by simp only[World.size_alloc]
 replace hq0:=Hd hq0
 replace hq1:=Hd hq1
 replace hal:=Hd hal
 replace cV:=Hd cV
 replace cC:=Hd cC
 replace hm:=Hd hm
 replace ha:=Hd ha
 replace hok:=Hd hok
 replace hsz:=Hd hsz
 go_enter Tryz.func55,Tryz.ntmps55
 go_wp2_with fail
 refine cV.out.mono ?_
 rintro e w2 ⟨rfl,hb2⟩
 have hq02:Blk w2 w.heap.size _ _:=(hb2.block _ hq0.out.lt).trans hq0.out
 have hq12:Hid (Blk w2 (w.heap.size+1) #[.int .i64 0,.bool false,.int .i64 0,.string ⟨#[]⟩,.string ⟨#[]⟩,.slice none 0 0] 38):=Hd ((hb2.block _ hq1.out.lt).trans hq1.out)
 have hB2:=Hd (hal.out.trans (hb2.mono hal.out.size))
 have hs2:Hid (w.heap.size+2≤w2.heap.size):=Hd (by have:=hb2.size;have:=hsz.out;omega)
 clear y0 y1 y2 y3 y4 y5
 have y0:=hq02.cell 0 rfl
 have y1:=hq02.cell 1 rfl
 have y2:=hq02.cell 2 rfl
 have y3:=hq02.cell 3 rfl
 have y4:=hq02.cell 4 rfl
 have y5:=hq02.cell 5 rfl
 clear hb2 cV hal hq0 hq1 hq02 hsz
 cases m
 ·have hq1o:=hq12.out
  have u0:=hq1o.cell 0 rfl
  have u1:=hq1o.cell 1 rfl
  have u2:=hq1o.cell 2 rfl
  have u3:=hq1o.cell 3 rfl
  have u4:=hq1o.cell 4 rfl
  have u5:=hq1o.cell 5 rfl
  have f1:=hq1o.free
  clear hq1o
  go_wp2
  have hfin:=Blk.set6 hq12.out (.int .i64 0) (.bool false) (.int .i64 0) (.string ⟨#[]⟩) (.string ⟨#[]⟩) (.slice none 0 0)
  have hbf:=Below.set6 hB2.out (b:=w.heap.size+1) (Nat.le_succ _) (.int .i64 0) (.bool false) (.int .i64 0) (.string ⟨#[]⟩) (.string ⟨#[]⟩) (.slice none 0 0)
  exact bodyPost_ret (v:=.agg #[.int .i64 0,.bool false,.int .i64 0,.string ⟨#[]⟩,.string ⟨#[]⟩,.slice none 0 0]) (results_cell_row rfl _ _ (w.heap.size+1) 38 _ (0,0) _ rfl hfin.eq Tryz.underlying38 rfl infoV6) rfl ⟨0,false,0,⟨#[]⟩,⟨#[]⟩,none,0,[],rfl,hbf,LF.nil _ _ _,ok_small 0 (by omega) (by omega) false,null_mayV,fun h=>by cases h⟩
 ·have cC2:=Hd (cC.out w2 hB2.out)
  clear cC
  go_wp2_with fail
  refine cC2.out.mono ?_
  rintro e w3 ⟨ao2,cap2,rfl,hb3,hl3⟩
  have hq13:Hid (Blk w3 (w.heap.size+1) #[.int .i64 0,.bool false,.int .i64 0,.string ⟨#[]⟩,.string ⟨#[]⟩,.slice none 0 0] 38):=Hd ((hb3.block _ hq12.out.lt).trans hq12.out)
  have hB3:=Hd (hB2.out.trans (hb3.mono hB2.out.size))
  clear y0 y1 y2 y3 y4 y5
  have hq1o:=hq13.out
  have u0:=hq1o.cell 0 rfl
  have u1:=hq1o.cell 1 rfl
  have u2:=hq1o.cell 2 rfl
  have u3:=hq1o.cell 3 rfl
  have u4:=hq1o.cell 4 rfl
  have u5:=hq1o.cell 5 rfl
  have f1:=hq1o.free
  replace hl3:=Hd hl3
  clear hq1o cC2 hb3 hB2 hq12
  go_wp2
  have hfin:=Blk.set6 hq13.out (.int .i64 k) (.bool b) (.int .i64 n) (.string t) (.string x) (.slice ao2 l.length cap2)
  have hbf:=Below.set6 hB3.out (b:=w.heap.size+1) (Nat.le_succ _) (.int .i64 k) (.bool b) (.int .i64 n) (.string t) (.string x) (.slice ao2 l.length cap2)
  have hlf:=hl3.out.set6 (w.heap.size+1) (fun h=>by have:=h.1;have:=hs2.out;omega) (.int .i64 k) (.bool b) (.int .i64 n) (.string t) (.string x) (.slice ao2 l.length cap2)
  exact bodyPost_ret (v:=agg6 k b n t x (.slice ao2 l.length cap2)) (results_cell_row rfl _ _ (w.heap.size+1) 38 _ (0,0) _ rfl hfin.eq Tryz.underlying38 rfl infoV6) rfl ⟨k,b,n,t,x,ao2,cap2,l,rfl,hbf,hlf.mono fun b hb=>⟨by have:=hb.1;have:=hs2.out;omega,by have:=hb.2;simpa only[World.setCell,Array.size_modify]using this⟩,hok.out,hm.out,fun h=>by cases h⟩
theorem texts_cell{w:World}{B:Nat}{ao:Option Addr}{cap:Nat}{l:List ByteArray}(h:TextsA w B (.slice ao l.length cap) l)(j:Nat)(hj:j<l.length):∃b off,ao=some ⟨b,off,none⟩∧b<B∧w.cell? ⟨b,off+j,none⟩=some (.string l[j]):=by
 have hlen:=textsV_length l
 rcases h.row with⟨a2,c2,hv,hl⟩|⟨b,off,c2,hv,h0,hc,hB,hcell⟩
 ·rw[hl]at hlen
  simp at hlen
  omega
 ·injection hv with e1 e2 e3
  refine⟨b,off,e1,hB,?_⟩
  rw[hcell j (by omega)]
  simp[textsV]
structure EnvM(w:World)(ev:Nat)(ns:List ByteArray)(vs:List V):Prop where
 blk:∃lang sn cn sv cv gn ge kn,Blk w ev #[.int .i64 lang,.slice sn ns.length cn,.slice sv vs.length cv,gn,ge,kn] 56∧TextsA w w.heap.size (.slice sn ns.length cn) ns∧LA w 1048576 (.slice sv vs.length cv) vs
 le:ns.length≤vs.length
 few:ns.length≤1048576
theorem EnvM.stay{w w':World}{ev:Nat}{ns:List ByteArray}{vs:List V}(h:EnvM w ev ns vs)(hb:Below w.heap.size w w'):EnvM w' ev ns vs:=by
 obtain⟨lang,sn,cn,sv,cv,gn,ge,kn,h1,h2,h3⟩:=h.blk
 exact⟨⟨lang,sn,cn,sv,cv,gn,ge,kn,(hb.block _ h1.lt).trans h1,TextsA.below h2 hb,h3.stay hb⟩,h.le,h.few⟩
def VrP(w:World)(e:Ending)(w':World):Prop:=∃k b n t x ao cap l,e=.returned (agg6 k b n t x (.slice ao l.length cap))∧Below w.heap.size w w'∧LA w' 1048576 (.slice ao l.length cap) l∧okV 1048576 (.mk k b n t x l)
theorem xvar_any(w:World)(ev:Nat)(ns:List ByteArray)(vs:List V)(hM:EnvM w ev ns vs)(s:ByteArray):Calls Tryz.prog 251 #[.agg #[.pointer (some ⟨ev,0,none⟩)],.string s] w (VrP w):=by
 have hq0:=(Blk.new w #[.pointer (some ⟨ev,0,none⟩)] 48).alloc (.cells #[.int .i64 0,.bool false,.int .i64 0,.string ⟨#[]⟩,.string ⟨#[]⟩,.slice none 0 0] 38)
 have hq1:=Blk.new (w.alloc (.cells #[.pointer (some ⟨ev,0,none⟩)] 48)) #[.int .i64 0,.bool false,.int .i64 0,.string ⟨#[]⟩,.string ⟨#[]⟩,.slice none 0 0] 38
 rw[World.size_alloc]at hq1
 have hal:Below w.heap.size w ((w.alloc (.cells #[.pointer (some ⟨ev,0,none⟩)] 48)).alloc (.cells #[.int .i64 0,.bool false,.int .i64 0,.string ⟨#[]⟩,.string ⟨#[]⟩,.slice none 0 0] 38)):=((Below.refl _ _).alloc (Nat.le_refl _) _).alloc (by rw[World.size_alloc];omega) _
 have hM2:=hM.stay hal
 obtain⟨lang,sn,cn,sv,cv,gn,ge,kn,h1,h2,h3⟩:=hM2.blk
 have hle:=hM.le
 have hfew:=hM.few
 have cI:=rindex_any _ sn cn ns s hM.few (fun j hj=>by
  obtain⟨b,off,rfl,hb,hc⟩:=texts_cell h2 j hj
  exact⟨b,off,rfl,hb,hc⟩)
 obtain⟨i,hi⟩:∃i,idxI ns s=i:=⟨_,rfl⟩
 have hineg:i=-1∨∃j:Nat,i=(j:Int)∧j<ns.length:=by
  rw[←hi]
  unfold idxI
  split
  ·next hm=>exact .inr ⟨_,rfl,List.idxOf_lt_length_of_mem hm⟩
  ·exact .inl rfl
 rw[hi]at cI
 have e0:=h1.cell 0 rfl
 have e1:=h1.cell 1 rfl
 have e2:=h1.cell 2 rfl
 have t0:=hq0.cell 0 rfl
 have u0:=hq1.cell 0 rfl
 have u1:=hq1.cell 1 rfl
 have u2:=hq1.cell 2 rfl
 have u3:=hq1.cell 3 rfl
 have u4:=hq1.cell 4 rfl
 have u5:=hq1.cell 5 rfl
 have f1:=hq1.free
 have hq0':=Hd hq0
 replace hq1:=Hd hq1
 replace hal:=Hd hal
 replace cI:=Hd cI
 replace hi:=Hd hi
 replace h2:=Hd h2
 replace hM:=Hd hM
 replace hM2:=Hd hM2
 have hsz:((w.alloc (.cells #[.pointer (some ⟨ev,0,none⟩)] 48)).alloc (.cells #[.int .i64 0,.bool false,.int .i64 0,.string ⟨#[]⟩,.string ⟨#[]⟩,.slice none 0 0] 38)).heap.size=w.heap.size+2:=by simp only[World.size_alloc]
 replace hsz:=Hd hsz
 clear h1 hq0
 rcases hineg with rfl|⟨j,rfl,hj⟩
 ·replace h3:=Hd h3
  go_enter Tryz.func251,Tryz.ntmps251
  go_wp2_with fail
  refine cI.out.mono ?_
  rintro e w2 ⟨rfl,rfl⟩
  clear cI
  go_wp2
  exact bodyPost_ret (v:=.agg #[.int .i64 0,.bool false,.int .i64 0,.string ⟨#[]⟩,.string ⟨#[]⟩,.slice none 0 0]) (results_cell_row rfl _ _ (w.heap.size+1) 38 _ (0,0) _ rfl hq1.out.eq Tryz.underlying38 rfl infoV6) rfl ⟨0,false,0,⟨#[]⟩,⟨#[]⟩,none,0,[],rfl,hal.out,.mk none 0 [] (by simp) (fun j hj=>by simp at hj),ok_small 0 (by omega) (by omega) false⟩
 ·have hjv:j<vs.length:=by omega
  obtain⟨b,off,k1,bo,n,t,x,l1,aoE,capE,rfl,he,hr,hok,hsl⟩:=la_at h3 j hjv
  obtain⟨m,hme⟩:∃m,SizeOf.sizeOf l1+1=m:=⟨_,rfl⟩
  have hcall:=copyValue_of 1048576 m (copyRow_all 1048576 (by omega) m) _ k1 bo n t x _ l1 (by omega) hsl
  unfold agg6 at hcall
  replace hcall:=Hd hcall
  obtain⟨x0,x1,x2,x3,x4,x5⟩:=hr.six
  have hji:(j:Int)<(vs.length:Int):=by omega
  replace h3:=Hd h3
  replace hme:=Hd hme
  replace hok:=Hd hok
  replace he:=Hd he
  clear hr hsl
  go_enter Tryz.func251,Tryz.ntmps251
  go_wp2_with fail
  refine cI.out.mono ?_
  rintro e w2 ⟨rfl,rfl⟩
  clear cI
  go_wp2_with fail
  refine hcall.out.mono ?_
  rintro e w3 ⟨ao2,cap2,rfl,hb3,hl3⟩
  have hq13:Hid (Blk w3 (w.heap.size+1) #[.int .i64 0,.bool false,.int .i64 0,.string ⟨#[]⟩,.string ⟨#[]⟩,.slice none 0 0] 38):=Hd ((hb3.block _ hq1.out.lt).trans hq1.out)
  have hB3:=Hd (hal.out.trans (hb3.mono hal.out.size))
  rw[hsz.out]at hl3
  clear u0 u1 u2 u3 u4 u5 f1 e0 e1 e2 t0 x0 x1 x2 x3 x4 x5
  have hq1o:=hq13.out
  have u0:=hq1o.cell 0 rfl
  have u1:=hq1o.cell 1 rfl
  have u2:=hq1o.cell 2 rfl
  have u3:=hq1o.cell 3 rfl
  have u4:=hq1o.cell 4 rfl
  have u5:=hq1o.cell 5 rfl
  have f1:=hq1o.free
  replace hl3:=Hd hl3
  clear hq1o hcall hb3 hq1
  go_wp2
  have hfin:=Blk.set6 hq13.out (.int .i64 k1) (.bool bo) (.int .i64 n) (.string t) (.string x) (.slice ao2 l1.length cap2)
  have hbf:=Below.set6 hB3.out (b:=w.heap.size+1) (Nat.le_succ _) (.int .i64 k1) (.bool bo) (.int .i64 n) (.string t) (.string x) (.slice ao2 l1.length cap2)
  have hlf:=hl3.out.set6 (w.heap.size+1) (fun h=>by have:=h.1;omega) (.int .i64 k1) (.bool bo) (.int .i64 n) (.string t) (.string x) (.slice ao2 l1.length cap2)
  exact bodyPost_ret (v:=agg6 k1 bo n t x (.slice ao2 l1.length cap2)) (results_cell_row rfl _ _ (w.heap.size+1) 38 _ (0,0) _ rfl hfin.eq Tryz.underlying38 rfl infoV6) rfl ⟨k1,bo,n,t,x,ao2,cap2,l1,rfl,hbf,hlf.toLA,hok.out⟩
end Go.Proofs.YtcaeipdgbaligaaGreatDoor.ex
