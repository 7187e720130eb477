/- Texts TabCopied, TabRow, one behind the other. -/
import Derived.Test.YtmpldjbdhbapbaaGreatDoorTabIA
import Derived.Laws.MakeOwn
set_option linter.unusedSimpArgs false
set_option linter.unusedVariables false
set_option maxRecDepth 100000
set_option maxHeartbeats 2000000
namespace Go.Proofs.YtmpldjbdhbapbaaGreatDoor.tab
open Go.ChangeShapes Go.WideShapes Go.ChangeAt Go.RowKit kit dec val
def CopdX(N m:Nat):Prop:=∀(w:World) (k:Int) (b:Bool) (n:Int) (t x:ByteArray) (s:Value) (l:List V),SizeOf.sizeOf l<m→LA w N s l →
 Calls Tryz.prog 38 #[agg6 k b n t x s] w fun e w'=>∃ao cap,e=.returned (agg6 k b n t x (.slice ao l.length cap))∧Below w.heap.size w w'∧LF w' N (Fr w.heap.size w') (.slice ao l.length cap) l
theorem copied_all(N:Nat)(hN:N≤1048576):∀m,CopdX N m:=by
 intro m
 induction m with
 |zero=>intro w k b n t x s l hm;omega
 | succ m ih =>
  intro w k b n t x s l hm ha
  obtain⟨ao,cap,rfl⟩:=ha.form6
  have hNl:=(ha.elems _ _ _ rfl).1
  replace ih:=Hd ih
  have hli:(l.length:Int)≤9223372036854775807:=by omega
  replace ha:=Hd ha
  go_enter Tryz.func38,Tryz.ntmps38
  unfold agg6
  go_wp2
  go_loopw [11] (fun v wr=>∃(i:Nat) (sv:Value),i≤l.length∧v=.int .i64 i∧Hid (LF wr N (Fr (w.heap.size+2) wr) sv (l.take i))∧Hid (Blk wr w.heap.size #[.int .i64 k,.bool b,.int .i64 n,.string t,.string x,sv] 34)∧Hid (Blk wr (w.heap.size+1) #[.int .i64 0,.bool false,.int .i64 0,.string ByteArray.empty,.string ByteArray.empty,.slice none 0 0] 34)∧Hid (Below w.heap.size w wr)∧w.heap.size+2≤wr.heap.size) (fun v _=>l.length-(intOf v).toNat)
  case atStart=>
   have hq0:=(Blk.new w #[.int .i64 k,.bool b,.int .i64 n,.string t,.string x,.slice none 0 0] 34).alloc (.cells #[.int .i64 0,.bool false,.int .i64 0,.string ByteArray.empty,.string ByteArray.empty,.slice none 0 0] 34)
   have hq1:=Blk.new (w.alloc (.cells #[.int .i64 k,.bool b,.int .i64 n,.string t,.string x,.slice none 0 0] 34)) #[.int .i64 0,.bool false,.int .i64 0,.string ByteArray.empty,.string ByteArray.empty,.slice none 0 0] 34
   rw[World.size_alloc]at hq1
   exact⟨0,_,by omega,rfl,LF.nil _ _ _,hq0,hq1,((Below.refl _ _).alloc (Nat.le_refl _) _).alloc (by rw[World.size_alloc];omega) _,by rw[World.size_alloc,World.size_alloc];omega⟩
  case round=>
   obtain⟨i,sv,hi,rfl,hlf,hq0,hq1,hb,hsz⟩:=hrel
   obtain⟨w0,rfl⟩:∃w0:World,w0=wr:=⟨_,rfl⟩
   by_cases hlt:i<l.length
   ·have hki:(i:Int)<(l.length:Int):=by omega
    obtain⟨b1,off,k1,bo,n1,t1,x1,l1,aoE,capE,rfl,he,hr,hok,hsl⟩:=la_at (ha.out.stay hb.out) i hlt
    have hmem:SizeOf.sizeOf l[i]<SizeOf.sizeOf l:=List.sizeOf_lt_of_mem (List.getElem_mem _)
    rw[he]at hmem
    have hm1:SizeOf.sizeOf l1<m:=by simp at hmem;omega
    have htk:=List.take_succ_eq_append_getElem hlt
    rw[he]at htk
    replace htk:=Hd htk
    obtain⟨x0,x1a,x2,x3,x4,x5⟩:=hr.six
    clear hmem hr he
    go_upto_region 6 with fail
    clear x0 x1a x2 x3 x4 x5
    have hal:Below w0.heap.size w0 (w0.alloc (.cells #[.int .i64 k1,.bool bo,.int .i64 n1,.string t1,.string x1,.slice aoE l1.length capE] 34)).drew:=((Below.refl _ _).alloc (Nat.le_refl _) _).drew
    have hE:=(Blk.new w0 #[.int .i64 k1,.bool bo,.int .i64 n1,.string t1,.string x1,.slice aoE l1.length capE] 34).drewN 1
    have hS0:Blk (w0.alloc (.cells #[.int .i64 k1,.bool bo,.int .i64 n1,.string t1,.string x1,.slice aoE l1.length capE] 34)).drew w.heap.size #[.int .i64 k,.bool b,.int .i64 n,.string t,.string x,sv] 34∧Blk (w0.alloc (.cells #[.int .i64 k1,.bool bo,.int .i64 n1,.string t1,.string x1,.slice aoE l1.length capE] 34)).drew w0.heap.size #[.int .i64 k1,.bool bo,.int .i64 n1,.string t1,.string x1,.slice aoE l1.length capE] 34:=⟨(hq0.out.alloc _).drewN 1,hE⟩
    have hlfV:=hlf.out.stay fun b hS hlt=>hal.block b hlt
    have hslV:=hsl.stay hal
    have hq1V:=(hq1.out.alloc (.cells #[.int .i64 k1,.bool bo,.int .i64 n1,.string t1,.string x1,.slice aoE l1.length capE] 34)).drewN 1
    have hbV:=hb.out.trans (hal.mono hb.out.size)
    have hsV:=hal.size
    refine wp_region_late [7] (S:=fun V=>Blk V w.heap.size #[.int .i64 k,.bool b,.int .i64 n,.string t,.string x,sv] 34∧Blk V w0.heap.size #[.int .i64 k1,.bool bo,.int .i64 n1,.string t1,.string x1,.slice aoE l1.length capE] 34) (by kernel_rfl) hS0 (fun hS=>?_)
    have hV:=hS0
    clear hS0 hal hE hsl hq0 hq1 hb hlf
    have hq1V':Blk (w0.alloc (.cells #[.int .i64 k1,.bool bo,.int .i64 n1,.string t1,.string x1,.slice aoE l1.length capE] 34)).drew (w.heap.size+1) #[.int .i64 0,.bool false,.int .i64 0,.string ByteArray.empty,.string ByteArray.empty,.slice none 0 0] 34:=hq1V
    clear hq1V
    generalize (w0.alloc (.cells #[.int .i64 k1,.bool bo,.int .i64 n1,.string t1,.string x1,.slice aoE l1.length capE] 34)).drew=V0 at *
    have hcall:=ih.out V0 k1 bo n1 t1 x1 _ l1 hm1 hslV
    unfold agg6 at hcall
    replace hcall:=Hd hcall
    refine tlH 0 ?_ rfl (fun w' hS=>?_) hS ?_
    rotate_left
    ·
     skip
     go_simp
     try with_reducible rfl
    refine tlH 1 ?_ rfl (fun w' hS=>?_) hS ?_
    rotate_left
    ·
     have x0:=hS.1.cell 0 rfl
     have x1:=hS.1.cell 1 rfl
     have x2:=hS.1.cell 2 rfl
     have x3:=hS.1.cell 3 rfl
     have x4:=hS.1.cell 4 rfl
     have x5:=hS.1.cell 5 rfl
     go_simp
     try with_reducible rfl
    refine tlH 2 ?_ rfl (fun w' hS=>?_) hS ?_
    rotate_left
    ·
     have x0:=hS.2.cell 0 rfl
     have x1:=hS.2.cell 1 rfl
     have x2:=hS.2.cell 2 rfl
     have x3:=hS.2.cell 3 rfl
     have x4:=hS.2.cell 4 rfl
     have x5:=hS.2.cell 5 rfl
     go_simp
     try with_reducible rfl
    refine wpAnyL_ready (i:=3) (by kernel_rfl) rfl (fun K hK=>?_)
    clear hS
    go_simp
    refine(hcall.out).mono ?_
    rintro e w5 ⟨ao2,cap2,rfl,hb5,hl5⟩
    go_wp2_with fail
    refine hKo hK (⟨hV.1.keep (Keep.ofBelow hb5) (by simp),hV.2.keep (Keep.ofBelow hb5) (by simp)⟩) (fun hS=>?_)
    clear hK K
    have hV5:Blk w5 w.heap.size _ _∧Blk w5 w0.heap.size _ _:=⟨hV.1.keep (Keep.ofBelow hb5) (by simp),hV.2.keep (Keep.ofBelow hb5) (by simp)⟩
    have hlf5:=hlfV.stay fun b hS hlt=>hb5.block b hlt
    have hq5:Blk w5 (w.heap.size+1) _ _:=hq1V'.keep (Keep.ofBelow hb5) (by simp)
    have hb5':=hbV.trans (hb5.mono hbV.size)
    have hs5:=hb5.size
    clear hcall hV hlfV hq1V' hslV
    refine wpAnyL_ready (i:=4) (by kernel_rfl) rfl (fun K hK=>?_)
    clear hS
    go_simp
    go_wp2_with fail
    have hal:=((Below.refl w5.heap.size w5).alloc (Nat.le_refl _) (.cells (six (.mk k1 bo n1 t1 x1 l1) (.slice ao2 l1.length cap2)).toArray 34))
    have hV6:=(⟨hV5.1.alloc _,hV5.2.alloc _⟩:Blk (w5.alloc (.cells (six (.mk k1 bo n1 t1 x1 l1) (.slice ao2 l1.length cap2)).toArray 34)) w.heap.size _ _∧Blk (w5.alloc (.cells (six (.mk k1 bo n1 t1 x1 l1) (.slice ao2 l1.length cap2)).toArray 34)) w0.heap.size _ _)
    have hq6:=hq5.alloc (.cells (six (.mk k1 bo n1 t1 x1 l1) (.slice ao2 l1.length cap2)).toArray 34)
    have hn6:=Blk.new w5 (six (.mk k1 bo n1 t1 x1 l1) (.slice ao2 l1.length cap2)).toArray 34
    have hlf6:=hlf5.stay fun b hS hlt=>hal.block b hlt
    have hl6:=hl5.stay fun b hS hlt=>hal.block b hlt
    have hb6:=hb5'.trans (hal.mono hb5'.size)
    have hs6:=World.size_alloc w5 (.cells (six (.mk k1 bo n1 t1 x1 l1) (.slice ao2 l1.length cap2)).toArray 34)
    refine hKo hK hV6 (fun hS=>?_)
    clear hK K hV5 hq5 hlf5 hl5 hb5' hal
    refine wpAnyL_ready (i:=5) (by kernel_rfl) rfl (fun K hK=>?_)
    clear hS
    refine wp_push1 (.tmp 16) (.tmp 19) rfl N hN (Fr (w.heap.size+2) w0) (Fr V0.heap.size w5) sv (l.take i) rfl hlf6 ?d2 w5.heap.size (.mk k1 bo n1 t1 x1 l1) (.slice ao2 l1.length cap2) rfl hn6 hl6 ?d3 hok ?d4 ?d5
    case d2=>intro b hb;rw[World.size_alloc];have:=hb.2;omega
    case d3=>intro b hb;exact⟨by rw[World.size_alloc];have:=hb.2;omega,fun h=>by have:=h.2;have:=hb.1;omega⟩
    case d4=>rw[List.length_take];omega
    case d5=>
     intro v' w' hlf' hg hvS
     have hV7:=(⟨(hg.block _ hV6.1.lt (fun e=>by have:=(hvS _ e.symm).1;omega)).trans hV6.1,(hg.block _ hV6.2.lt (fun e=>by have:=(hvS _ e.symm).2;omega)).trans hV6.2⟩:Blk w' w.heap.size _ _∧Blk w' w0.heap.size _ _)
     have hq7:Blk w' (w.heap.size+1) _ _:=(hg.block _ hq6.lt (fun e=>by have:=(hvS _ e.symm).1;omega)).trans hq6
     have hb7:=hb6.grown hg hb6.size (fun g e=>by have:=(hvS _ e).1;omega)
     have hs7:=hg.size
     rw[World.size_alloc]at hs7
     have hlf7:=hlf'.mono (S':=Fr (w.heap.size+2) w') (by
      rintro b (hb|hb|hb)
      ·exact⟨hb.1,by have:=hb.2;omega⟩
      ·exact⟨by have:=hb.1;omega,by have:=hb.2;omega⟩
      ·exact⟨by have:=hb.1;rw[World.size_alloc]at this;omega,hb.2⟩)
     have hlen7:(l.take i++[V.mk k1 bo n1 t1 x1 l1]).length=i+1:=by rw[List.length_append,List.length_take];simp;omega
     obtain⟨ao7,cap7,rfl,_⟩:=hlf7.form
     refine hKo hK hV7 (fun hS=>?_)
     clear hK K hV6 hq6 hlf6 hl6 hb6 hn6 hlf' hg hvS
     refine tlH 6 ?_ rfl (fun w' hS=>?_) hS ?_
     rotate_left
     ·
      skip
      go_simp
      try with_reducible rfl
     refine wpAnyL_late (i:=7) (by kernel_rfl) rfl (by kernel_rfl) (fun K hK=>?_)
     clear hS
     have f0:=hV7.1.free 5
     have x0:=hV7.1.cell 0 rfl
     have x1:=hV7.1.cell 1 rfl
     have x2:=hV7.1.cell 2 rfl
     have x3:=hV7.1.cell 3 rfl
     have x4:=hV7.1.cell 4 rfl
     have x5:=hV7.1.cell 5 rfl
     go_simp
     go_wp2_with fail
     refine hK.out _ _ ?_
     clear hK K x0 x1 x2 x3 x4 x5 f0
     try simp only[List.getElem_toArray,List.getElem_cons_succ,List.getElem_cons_zero,Act.put,List.setIfInBounds_toArray,List.set_cons_zero,List.set_cons_succ]
     refine wpAnyL_done (by kernel_rfl) ?_ _
     have hq8:=Hd (hq7.set_other ⟨w.heap.size,5,none⟩ (by simp) (.slice ao7 (i+1) cap7))
     have hV8:=Hd (hV7.1.set 5 (.slice ao7 (i+1) cap7))
     have hlf8:=Hd ((hlf7.setCell ⟨w.heap.size,5,none⟩ (fun h=>by have:=h.1;simp at this;omega) (.slice ao7 (i+1) cap7)).mono (S':=Fr (w.heap.size+2) (w'.setCell ⟨w.heap.size,5,none⟩ (.slice ao7 (i+1) cap7))) fun b hb=>⟨hb.1,by have:=hb.2;simpa only[World.setCell,Array.size_modify]using this⟩)
     rw[hlen7]at hlf8
     have hb8:=Hd (hb7.setCell (p:=⟨w.heap.size,5,none⟩) (Nat.le_refl _) (.slice ao7 (i+1) cap7))
     clear hq7 hV7 hlf7 hb7
     clear hlen7
     go_wp2
     go_roundw
     case rel=>exact⟨i+1,_,by omega,by go_num,by rw[htk.out];exact hlf8,hV8,hq8,hb8,by simp[World.setCell];omega⟩
     case measure=>simp[intOf];omega
   ·have hki:¬(i:Int)<(l.length:Int):=by omega
    obtain rfl:i=l.length:=by omega
    have hl3:=hlf.out
    rw[List.take_length]at hl3
    obtain⟨ao3,cap3,rfl,_⟩:=hl3.form
    have x0:=hq0.out.cell 0 rfl
    have x1:=hq0.out.cell 1 rfl
    have x2:=hq0.out.cell 2 rfl
    have x3:=hq0.out.cell 3 rfl
    have x4:=hq0.out.cell 4 rfl
    have x5:=hq0.out.cell 5 rfl
    have y0:=hq1.out.cell 0 rfl
    have y1:=hq1.out.cell 1 rfl
    have y2:=hq1.out.cell 2 rfl
    have y3:=hq1.out.cell 3 rfl
    have y4:=hq1.out.cell 4 rfl
    have y5:=hq1.out.cell 5 rfl
    have f1:=hq1.out.free
    replace hl3:=Hd hl3
    clear hlf
    go_wp2
    have hfin:=Blk.set6 hq1.out (.int .i64 k) (.bool b) (.int .i64 n) (.string t) (.string x) (.slice ao3 l.length cap3)
    have hlf:=hl3.out.set6 (w.heap.size+1) (fun h=>by have:=h.1;omega) (.int .i64 k) (.bool b) (.int .i64 n) (.string t) (.string x) (.slice ao3 l.length cap3)
    have hbf:=Below.set6 hb.out (b:=w.heap.size+1) (Nat.le_succ _) (.int .i64 k) (.bool b) (.int .i64 n) (.string t) (.string x) (.slice ao3 l.length cap3)
    refine bodyPost_ret (v:=agg6 k b n t x (.slice ao3 l.length cap3)) (results_cell_row rfl _ _ (w.heap.size+1) 34 _ (0,0) _ rfl hfin.eq Tryz.underlying34 rfl infoV6) rfl ⟨ao3,cap3,rfl,hbf,hlf.mono fun b hb=>⟨by have:=hb.1;omega,by have:=hb.2;simpa only[World.setCell,Array.size_modify]using this⟩⟩
theorem infoVal:(Tryz.prog.info? 34).map (fun i=>(i.zero,i.size,i.bytes))=some (some (.agg #[.int .i64 0,.bool false,.int .i64 0,.string ByteArray.empty,.string ByteArray.empty,.slice none 0 0]),6,80):=by kernel_rfl
def zeroCells(n:Nat):Array Value:=madeCells #[.int .i64 0,.bool false,.int .i64 0,.string ByteArray.empty,.string ByteArray.empty,.slice none 0 0] (n * 6)
theorem make_vals(l n:Nat)(hl:l≤n)(hn:n≤1048576)(w:World):
 (Instr.makeSlice 32 (.int .i64 (l:Int)) (.int .i64 (n:Int))).run Tryz.prog w=.ok (.slice (some ⟨w.heap.size,0,none⟩) l n) (w.alloc (.cells (zeroCells n) 34)):=by
 obtain⟨i0,hi,h1,h2,h3⟩:=info_parts infoVal
 have:=run_make (P:=Tryz.prog) w 32 34 i0 _ Tryz.underlying32 hi h1 .i64 .i64 (l:Int) (n:Int) (by omega) (by omega) (by rw[h3];omega) (by omega)
 rw[h2]at this
 simp only[Int.toNat_natCast]at this
 exact this
theorem wpList_push1{w:World}{ops:Array Oper}{rest:List Oper}{o:Oper}{a:Act}{Q:Exit→Act→World→Prop}(hgd:o.guard=none)(s x:Operand)
 (ho:o.op=.call { callee:=.builtin .append,args:=#[s,x],argTypes:=#[32,32] })
 (N:Nat)(hN:N≤1048576)(S T:Nat→Prop)(v:Value)(l:List V)(hs:a.eval s=v)(hL:LF w N S v l)(hSlt:∀b,S b→b<w.heap.size)
 (g:Nat)(e:V)(t:Value)(hx:a.eval x=.slice (some ⟨g,0,none⟩) 1 1)(hg:Blk w g (six e t).toArray 34)
 (hT:LF w N T t (kids e))(hTlt:∀b,T b→b<w.heap.size∧¬S b)(hok:okV N e)(hlen:l.length+1≤N)
 (hK:∀v' w',LF w' N (fun b=>S b∨T b∨(w.heap.size≤b∧b<w'.heap.size)) v' (l++[e])→w.grownBy w' v.ownBlock→(∀g,v.ownBlock=some g→S g)→wpList Tryz.prog ops Q rest (a.put o.dst v') w'):
 wpList Tryz.prog ops Q (o::rest) a w:=
 wpList_plain hgd fun _ hK2=>wp_push1 s x ho N hN S T v l hs hL hSlt g e t hx hg hT hTlt hok hlen fun v' w' h1 h2 h3=>hK2 _ _ (hK v' w' h1 h2 h3)
theorem LF.made0(w:World)(N n:Nat)(hn:n≤1048576)(S:Nat→Prop)(hS:S w.heap.size):LF (w.alloc (.cells (zeroCells n) 34)) N S (.slice (some ⟨w.heap.size,0,none⟩) 0 n) []:=
 .mk [] (fun _ _=>False) rfl (Nat.zero_le _) (World.ownsRow_made w _ n (Nat.zero_le _) (by unfold maxLen;omega) (size_madeCells _ _)) (fun g h=>by injection h with h;rw[←h];exact hS) (fun g h=>by intro j hj;exact hj.elim) (fun _ _ h=>h.elim) (fun _ _ _ h=>h.elim) (fun p hp=>by cases hp) (fun j hj=>by simp at hj)
theorem row_any(N:Nat)(hN:N≤1048576)(w:World)(s:Value)(l:List V)(hs:LA w N s l):
 Calls Tryz.prog 33 #[s] w fun e w'=>∃a c,e=.returned (.slice a l.length c)∧Below w.heap.size w w'∧LF w' N (Fr w.heap.size w') (.slice a l.length c) l:=by
 obtain⟨ao,cap,rfl⟩:=hs.form6
 have hNl:=(hs.elems _ _ _ rfl).1
 have hmk:=make_vals 0 l.length (Nat.zero_le _) (by omega) w
 rw[show((0:Nat):Int)=0 from rfl]at hmk
 have ha:=Hd hs
 have hL0:=Hd (LF.made0 w N l.length (by omega) (Fr w.heap.size (w.alloc (.cells (zeroCells l.length) 34))) ⟨Nat.le_refl _,by simp⟩)
 have hb0:Hid (Below w.heap.size w (w.alloc (.cells (zeroCells l.length) 34))):=Hd ((Below.refl _ _).alloc (Nat.le_refl _) _)
 clear hs
 go_enter Tryz.func33,Tryz.ntmps33
 go_wp2
 go_loopw [3,11] (fun o i wr=>∃k:Nat,k≤l.length∧i=.int .i64 (k:Int)∧Hid (LF wr N (Fr w.heap.size wr) o (l.take k))∧Hid (Below w.heap.size w wr)) (fun _ i _=>l.length-(intOf i).toNat)
 case atStart=>exact⟨0,by omega,rfl,by simpa using hL0,hb0⟩
 case round=>
  clear hL0 hb0 hmk
  obtain⟨k,hk,rfl,hlf,hb⟩:=hrel
  obtain⟨w0,rfl⟩:∃w0:World,w0=wr:=⟨_,rfl⟩
  by_cases hlt:k<l.length
  ·have hki:(k:Int)<(l.length:Int):=by omega
   have hk1:=Hd (show k+1≤l.length from hlt)
   obtain⟨b1,off,k1,bo,n1,t1,x1,l1,aoE,capE,rfl,he,hr,hok,hsl⟩:=la_at (ha.out.stay hb.out) k hlt
   have htk:=List.take_succ_eq_append_getElem hlt
   rw[he]at htk
   have htl:(l.take k).length+1≤N:=by rw[List.length_take];omega
   have htl2:(l.take k).length=k:=by rw[List.length_take];omega
   replace htk:=Hd htk
   obtain⟨x0,x1a,x2,x3,x4,x5⟩:=hr.six
   have hal:Below w0.heap.size w0 (w0.alloc (.cells #[.int .i64 k1,.bool bo,.int .i64 n1,.string t1,.string x1,.slice aoE l1.length capE] 34)):=(Below.refl _ _).alloc (Nat.le_refl _) _
   have hcp:=copied_all N hN (SizeOf.sizeOf l1+1) (w0.alloc (.cells #[.int .i64 k1,.bool bo,.int .i64 n1,.string t1,.string x1,.slice aoE l1.length capE] 34)) k1 bo n1 t1 x1 _ l1 (Nat.lt_succ_self _) (hsl.stay hal)
   unfold agg6 at hcp
   have hE:=Blk.new w0 #[.int .i64 k1,.bool bo,.int .i64 n1,.string t1,.string x1,.slice aoE l1.length capE] 34
   have y0:=hE.cell 0 rfl
   have y1:=hE.cell 1 rfl
   have y2:=hE.cell 2 rfl
   have y3:=hE.cell 3 rfl
   have y4:=hE.cell 4 rfl
   have y5:=hE.cell 5 rfl
   replace hcp:=Hd hcp
   replace hal:=Hd hal
   clear hr he hsl hlt hE
   go_wp2_with fail
   refine hcp.out.mono ?_
   rintro e w5 ⟨ao2,cap2,rfl,hb5,hl5⟩
   have hlf0:=hlf.out.stay fun b hS hlt=>hal.out.block b hlt
   have hlf5:=hlf0.stay fun b hS hlt=>hb5.block b hlt
   have hb05:=hb.out.trans ((hal.out.trans (hb5.mono hal.out.size)).mono hb.out.size)
   have hs0:=hal.out.size
   have hb05s:=hb.out.size
   have hs5:=hb5.size
   have hnb:Below w5.heap.size w5 (w5.alloc (.cells (six (.mk k1 bo n1 t1 x1 l1) (.slice ao2 l1.length cap2)).toArray 34)):=(Below.refl _ _).alloc (Nat.le_refl _) _
   have hlf6:=hlf5.stay fun b hS hlt=>hnb.block b hlt
   have hl6:=hl5.stay fun b hS hlt=>hnb.block b hlt
   have hn6:=Blk.new w5 (six (.mk k1 bo n1 t1 x1 l1) (.slice ao2 l1.length cap2)).toArray 34
   have hb6:=hb05.trans (hnb.mono hb05.size)
   have hsz6:=World.size_alloc w5 (.cells (six (.mk k1 bo n1 t1 x1 l1) (.slice ao2 l1.length cap2)).toArray 34)
   have hd2:∀b,Fr w.heap.size w0 b→b<(w5.alloc (.cells (six (.mk k1 bo n1 t1 x1 l1) (.slice ao2 l1.length cap2)).toArray 34)).heap.size:=fun b h=>by have:=h.2;omega
   have hd3:∀b,Fr (w0.alloc (.cells #[.int .i64 k1,.bool bo,.int .i64 n1,.string t1,.string x1,.slice aoE l1.length capE] 34)).heap.size w5 b→b<(w5.alloc (.cells (six (.mk k1 bo n1 t1 x1 l1) (.slice ao2 l1.length cap2)).toArray 34)).heap.size∧¬Fr w.heap.size w0 b:=fun b h=>⟨by have:=h.2;omega,fun h2=>by have:=h2.2;have:=h.1;omega⟩
   clear hlf hcp hlf0 hlf5 hb05 hnb hb5 hl5 hal hb
   go_wp2_with (at_builtin;refine wpList_push1 rfl _ _ rfl N hN (Fr w.heap.size w0) _ u3 (l.take k) rfl hlf6 hd2 w5.heap.size (.mk k1 bo n1 t1 x1 l1) (.slice ao2 l1.length cap2) rfl hn6 hl6 hd3 hok htl ?pa)
   case pa=>
    intro v7 w7 h1 hg hvS
    rw[←htk.out]at h1
    have h7:Hid (LF w7 N (Fr w.heap.size w7) v7 (l.take (k+1))):=Hd (h1.mono fun b hb=>by
     have hgs:=hg.size
     have hw:=hb6.size
     rw[World.size_alloc]at hgs
     rcases hb with hb|hb|hb
     ·exact⟨hb.1,by have:=hb.2;omega⟩
     ·exact⟨by have h:=hb.1;have:=hb05s;simp only[World.size_alloc]at *;omega,by have:=hb.2;omega⟩
     ·exact⟨by have h:=hb.1;simp only[World.size_alloc]at *;omega,hb.2⟩)
    have hb7:=Hd (hb6.grown hg hb6.size (fun g e=>(hvS _ e).1))
    clear h1 hg hvS hlf6 hb6 hn6 hl6 hd2 hd3
    go_wp2
    go_roundw
    case rel=>exact⟨k+1,hk1.out,by go_num,h7,hb7⟩
    case measure=>have:=hk1.out;simp[intOf];omega
  ·have hki:¬(k:Int)<(l.length:Int):=by omega
   obtain rfl:k=l.length:=by omega
   have hlf2:=hlf.out
   rw[List.take_length]at hlf2
   obtain⟨a3,c3,rfl,-⟩:=hlf2.form
   replace hlf2:=Hd hlf2
   clear hlf
   go_wp2
   go_ret
   exact⟨a3,c3,rfl,hb.out,hlf2.out⟩
end Go.Proofs.YtmpldjbdhbapbaaGreatDoor.tab
