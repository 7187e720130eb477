/- Whether a comparison holds: one of three truth values. -/
import Derived.Test.YtcaeipdgbaligaaGreatDoorXName
set_option linter.unusedSimpArgs false
set_option linter.unusedVariables false
set_option maxHeartbeats 8000000
namespace Go.Proofs.YtcaeipdgbaligaaGreatDoor.ex
open Go.ChangeShapes Go.WideShapes Go.ChangeAt Go.RowKit kit dec val tab logic
open hyp (RowA TextsA textsV textsV_length)
set_option maxRecDepth 100000
theorem tr0:T3 0:=.inl rfl
theorem tr1:T3 1:=.inr (.inl rfl)
theorem tr2:T3 2:=.inr (.inr rfl)
theorem b2i_in(b:Bool):T3 (b2i b):=by
 cases b
 ·exact tr0
 ·exact tr1
theorem aliS_in(k k2:Int)(b:Bool):T3 (aliS k k2 b):=by
 unfold aliS
 repeat' (first|exact tr0|exact tr1|exact tr2|exact b2i_in _|split)
mutual
theorem eqlV_in(s:Bool):∀v u,T3 (eqlV s v u)
 |.mk k b n t x l,.mk k2 b2 n2 t2 x2 l2=>by
  have h:=eqlL_in s l l2
  rw[eqlV]
  repeat' (first|exact tr0|exact tr2|exact h|exact b2i_in _|exact aliS_in _ _ _|split)
theorem eqlL_in(s:Bool):∀l m,T3 (eqlL s l m)
 |[],[]=>by simp[eqlL,T3]
 |[],_::_=>by simp[eqlL,T3]
 |_::_,[]=>by simp[eqlL,T3]
 |v::l,u::m=>by
  have h1:=eqlV_in s v u
  have h2:=eqlL_in s l m
  rw[eqlL]
  repeat' (first|exact tr0|exact tr1|exact tr2|exact h1|exact h2|split)
end
theorem equalV_in(s:Bool)(v u:V):T3 (equalV s v u):=by
 unfold equalV
 repeat' (first|exact tr2|exact eqlV_in _ _ _|split)
theorem lessW_in(v u:V):T3 (lessW v u):=by
 obtain⟨k,b,n,t,x,l⟩:=v
 obtain⟨k2,b2,n2,t2a,x2,l2⟩:=u
 unfold lessW
 repeat' (first|exact tr2|exact b2i_in _|split)
theorem lessV_in(v u:V):T3 (lessV v u):=by
 unfold lessV
 repeat' (first|exact tr2|exact lessW_in _ _|split)
structure HoW(w0:World)(w:World)(eb p q:Nat)(ca cb:Array Value)(iv:Value):Prop where
 below:Below w0.heap.size w0 w
 eb:Blk w eb #[.int .i64 0,iv] 68
 pa:Blk w p ca 38
 qb:Blk w q cb 38
theorem HoW.on{w0 w w':World}{eb p q:Nat}{ca cb:Array Value}{iv:Value}(h:HoW w0 w eb p q ca cb iv)(hb:Below w.heap.size w w'):HoW w0 w' eb p q ca cb iv:=
 ⟨h.below.trans (hb.mono h.below.size),(hb.block _ h.eb.lt).trans h.eb,(hb.block _ h.pa.lt).trans h.pa,(hb.block _ h.qb.lt).trans h.qb⟩
theorem xholds_any(w:World)(hE:EnvD w)(eb:Nat)(iv:Value)(hb:Blk w eb #[.int .i64 0,iv] 68)(op:Int)(hop:9≤op∧op≤14)(k:Int)(b:Bool)(n:Int)(t x:ByteArray)(s:Value)(l:List V)(k2:Int)(b2:Bool)(n2:Int)(t2 x2:ByteArray)(s2:Value)(l2:List V)
 (ha:LA w 1048576 s l)(hok:okV 1048576 (.mk k b n t x l))(ha2:LA w 1048576 s2 l2)(hok2:okV 1048576 (.mk k2 b2 n2 t2 x2 l2)):
 Calls Tryz.prog 42 #[.pointer (some ⟨eb,0,none⟩),.int .i64 op,agg6 k b n t x s,agg6 k2 b2 n2 t2 x2 s2] w (T3P w):=by
 obtain⟨ao,cap,rfl⟩:=ha.form6
 obtain⟨ao2,cap2,rfl⟩:=ha2.form6
 have hq0:=(Blk.new w #[.int .i64 k,.bool b,.int .i64 n,.string t,.string x,.slice ao l.length cap] 38).alloc (.cells #[.int .i64 k2,.bool b2,.int .i64 n2,.string t2,.string x2,.slice ao2 l2.length cap2] 38)
 have hq1:=Blk.new (w.alloc (.cells #[.int .i64 k,.bool b,.int .i64 n,.string t,.string x,.slice ao l.length cap] 38)) #[.int .i64 k2,.bool b2,.int .i64 n2,.string t2,.string x2,.slice ao2 l2.length cap2] 38
 rw[World.size_alloc]at hq1
 have hal:Below w.heap.size w ((w.alloc (.cells #[.int .i64 k,.bool b,.int .i64 n,.string t,.string x,.slice ao l.length cap] 38)).alloc (.cells #[.int .i64 k2,.bool b2,.int .i64 n2,.string t2,.string x2,.slice ao2 l2.length cap2] 38)):=((Below.refl _ _).alloc (Nat.le_refl _) _).alloc (by rw[World.size_alloc];omega) _
 have hW0:HoW w ((w.alloc (.cells #[.int .i64 k,.bool b,.int .i64 n,.string t,.string x,.slice ao l.length cap] 38)).alloc (.cells #[.int .i64 k2,.bool b2,.int .i64 n2,.string t2,.string x2,.slice ao2 l2.length cap2] 38)) eb w.heap.size (w.heap.size+1) #[.int .i64 k,.bool b,.int .i64 n,.string t,.string x,.slice ao l.length cap] #[.int .i64 k2,.bool b2,.int .i64 n2,.string t2,.string x2,.slice ao2 l2.length cap2] iv:=⟨hal,(hb.alloc _).alloc _,hq0,hq1⟩
 have cE:=fun W (h:Below w.heap.size w W)=>equalX_call 1048576 0 (by omega) W (hE.below h) k b n hok.2.1 t x (.slice ao l.length cap) l k2 b2 n2 hok2.2.1 t2 x2 (.slice ao2 l2.length cap2) l2 (ha.stay h) hok.2.2.1 hok.2.2.2 (ha2.stay h) hok2.2.2.1 hok2.2.2.2
 have cL:=fun W (h:Below w.heap.size w W)=>less_call 1048576 0 (by omega) W (hE.below h) k b n hok.2.1 t x (.slice ao l.length cap) l k2 b2 n2 hok2.2.1 t2 x2 (.slice ao2 l2.length cap2) l2 (ha.stay h) hok.2.2.1 hok.2.2.2 (ha2.stay h) hok2.2.2.1 hok2.2.2.2
 have cG:=fun W (h:Below w.heap.size w W)=>less_call 1048576 0 (by omega) W (hE.below h) k2 b2 n2 hok2.2.1 t2 x2 (.slice ao2 l2.length cap2) l2 k b n hok.2.1 t x (.slice ao l.length cap) l (ha2.stay h) hok2.2.2.1 hok2.2.2.2 (ha.stay h) hok.2.2.1 hok.2.2.2
 have rE:=equalV_in (decide ((0:Int)=1)) (.mk k b n t x l) (.mk k2 b2 n2 t2 x2 l2)
 have rL:=lessV_in (.mk k b n t x l) (.mk k2 b2 n2 t2 x2 l2)
 have rG:=lessV_in (.mk k2 b2 n2 t2 x2 l2) (.mk k b n t x l)
 generalize equalV (decide ((0:Int)=1)) (.mk k b n t x l) (.mk k2 b2 n2 t2 x2 l2)=vE at *
 generalize lessV (.mk k b n t x l) (.mk k2 b2 n2 t2 x2 l2)=vL at *
 generalize lessV (.mk k2 b2 n2 t2 x2 l2) (.mk k b n t x l)=vG at *
 unfold agg6 at cE cL cG ⊢
 replace hW0:=Hd hW0
 replace cE:=Hd cE
 replace cL:=Hd cL
 replace cG:=Hd cG
 replace rE:=Hd rE
 replace rL:=Hd rL
 replace rG:=Hd rG
 replace ha:=Hd ha
 replace ha2:=Hd ha2
 replace hok:=Hd hok
 replace hok2:=Hd hok2
 clear hq0 hq1 hal hb
 rcases(by omega:op=9∨op=10∨op=11∨op=12∨op=13∨op=14) with rfl|rfl|rfl|rfl|rfl|rfl
 ·go_enter Tryz.func42,Tryz.ntmps42
  go_upto_region 3 with fail
  have hW1:HoW w ((w.alloc (.cells #[.int .i64 k,.bool b,.int .i64 n,.string t,.string x,.slice ao l.length cap] 38)).alloc (.cells #[.int .i64 k2,.bool b2,.int .i64 n2,.string t2,.string x2,.slice ao2 l2.length cap2] 38)).drew eb w.heap.size (w.heap.size+1) #[.int .i64 k,.bool b,.int .i64 n,.string t,.string x,.slice ao l.length cap] #[.int .i64 k2,.bool b2,.int .i64 n2,.string t2,.string x2,.slice ao2 l2.length cap2] iv:=hW0.out.on (Below_drewN 1 (Below.refl _ _))
  refine wp_region_held_drew (S:=fun V=>HoW w V eb w.heap.size (w.heap.size+1) #[.int .i64 k,.bool b,.int .i64 n,.string t,.string x,.slice ao l.length cap] #[.int .i64 k2,.bool b2,.int .i64 n2,.string t2,.string x2,.slice ao2 l2.length cap2] iv) (by kernel_rfl) hW1 (fun hS=>?_)
  clear hW0
  generalize ((w.alloc (.cells #[.int .i64 k,.bool b,.int .i64 n,.string t,.string x,.slice ao l.length cap] 38)).alloc (.cells #[.int .i64 k2,.bool b2,.int .i64 n2,.string t2,.string x2,.slice ao2 l2.length cap2] 38)).drew=V0 at *
  refine tkS [0,1,2,3,4,5] ?_
  iterate 6
   refine tkC ?_ rfl (fun w' hS=>?_) hS ?_
   rotate_left
   ·
    have y0:=hS.pa.cell 0 rfl
    have y1:=hS.pa.cell 1 rfl
    have y2:=hS.pa.cell 2 rfl
    have y3:=hS.pa.cell 3 rfl
    have y4:=hS.pa.cell 4 rfl
    have y5:=hS.pa.cell 5 rfl
    have z0:=hS.qb.cell 0 rfl
    have z1:=hS.qb.cell 1 rfl
    have z2:=hS.qb.cell 2 rfl
    have z3:=hS.qb.cell 3 rfl
    have z4:=hS.qb.cell 4 rfl
    have z5:=hS.qb.cell 5 rfl
    have e0:=hS.eb.cell 0 rfl
    go_simp
    try with_reducible rfl
  refine rdH 6 rfl (fun K hK=>?_)
  clear hS
  go_simp
  refine(cE.out V0 hW1.below).mono ?_
  rintro e w2 ⟨rfl,hb2⟩
  go_wp2_with fail
  refine hKo hK (hW1.on hb2) (fun hS=>?_)
  clear hK K
  have hW2:=Hd (hW1.on hb2)
  refine tkH 7 ?_ rfl (fun w' hS=>?_) hS ?_
  rotate_left
  ·
   skip
   go_simp
   try with_reducible rfl
  refine wpAnyH_done (by kernel_rfl) ?_ _
  clear hS
  go_wp2
  go_ret
  exact⟨_,rfl,rE.out,hW2.out.below⟩
 ·go_enter Tryz.func42,Tryz.ntmps42
  go_upto_region 5 with fail
  have hW1:HoW w ((w.alloc (.cells #[.int .i64 k,.bool b,.int .i64 n,.string t,.string x,.slice ao l.length cap] 38)).alloc (.cells #[.int .i64 k2,.bool b2,.int .i64 n2,.string t2,.string x2,.slice ao2 l2.length cap2] 38)).drew eb w.heap.size (w.heap.size+1) #[.int .i64 k,.bool b,.int .i64 n,.string t,.string x,.slice ao l.length cap] #[.int .i64 k2,.bool b2,.int .i64 n2,.string t2,.string x2,.slice ao2 l2.length cap2] iv:=hW0.out.on (Below_drewN 1 (Below.refl _ _))
  refine wp_region_held_drew (S:=fun V=>HoW w V eb w.heap.size (w.heap.size+1) #[.int .i64 k,.bool b,.int .i64 n,.string t,.string x,.slice ao l.length cap] #[.int .i64 k2,.bool b2,.int .i64 n2,.string t2,.string x2,.slice ao2 l2.length cap2] iv) (by kernel_rfl) hW1 (fun hS=>?_)
  clear hW0
  generalize ((w.alloc (.cells #[.int .i64 k,.bool b,.int .i64 n,.string t,.string x,.slice ao l.length cap] 38)).alloc (.cells #[.int .i64 k2,.bool b2,.int .i64 n2,.string t2,.string x2,.slice ao2 l2.length cap2] 38)).drew=V0 at *
  refine tkS [0,1,2,3,4,5] ?_
  iterate 6
   refine tkC ?_ rfl (fun w' hS=>?_) hS ?_
   rotate_left
   ·
    have y0:=hS.pa.cell 0 rfl
    have y1:=hS.pa.cell 1 rfl
    have y2:=hS.pa.cell 2 rfl
    have y3:=hS.pa.cell 3 rfl
    have y4:=hS.pa.cell 4 rfl
    have y5:=hS.pa.cell 5 rfl
    have z0:=hS.qb.cell 0 rfl
    have z1:=hS.qb.cell 1 rfl
    have z2:=hS.qb.cell 2 rfl
    have z3:=hS.qb.cell 3 rfl
    have z4:=hS.qb.cell 4 rfl
    have z5:=hS.qb.cell 5 rfl
    have e0:=hS.eb.cell 0 rfl
    go_simp
    try with_reducible rfl
  refine rdH 6 rfl (fun K hK=>?_)
  clear hS
  go_simp
  refine(cE.out V0 hW1.below).mono ?_
  rintro e w2 ⟨rfl,hb2⟩
  go_wp2_with fail
  refine hKo hK (hW1.on hb2) (fun hS=>?_)
  clear hK K
  have hW2:=Hd (hW1.on hb2)
  refine rdH 7 rfl (fun K hK=>?_)
  clear hS
  go_simp
  refine(not_any vE w2).mono ?_
  rintro e w3 ⟨rfl,rfl⟩
  go_wp2_with fail
  refine hKo hK (hW2.out) (fun hS=>?_)
  clear hK K
  refine tkH 8 ?_ rfl (fun w' hS=>?_) hS ?_
  rotate_left
  ·
   skip
   go_simp
   try with_reducible rfl
  refine wpAnyH_done (by kernel_rfl) ?_ _
  clear hS
  go_wp2
  go_ret
  exact⟨_,rfl,not3_in _,hW2.out.below⟩
 ·go_enter Tryz.func42,Tryz.ntmps42
  go_upto_region 7 with fail
  have hW1:HoW w ((w.alloc (.cells #[.int .i64 k,.bool b,.int .i64 n,.string t,.string x,.slice ao l.length cap] 38)).alloc (.cells #[.int .i64 k2,.bool b2,.int .i64 n2,.string t2,.string x2,.slice ao2 l2.length cap2] 38)).drew eb w.heap.size (w.heap.size+1) #[.int .i64 k,.bool b,.int .i64 n,.string t,.string x,.slice ao l.length cap] #[.int .i64 k2,.bool b2,.int .i64 n2,.string t2,.string x2,.slice ao2 l2.length cap2] iv:=hW0.out.on (Below_drewN 1 (Below.refl _ _))
  refine wp_region_held_drew (S:=fun V=>HoW w V eb w.heap.size (w.heap.size+1) #[.int .i64 k,.bool b,.int .i64 n,.string t,.string x,.slice ao l.length cap] #[.int .i64 k2,.bool b2,.int .i64 n2,.string t2,.string x2,.slice ao2 l2.length cap2] iv) (by kernel_rfl) hW1 (fun hS=>?_)
  clear hW0
  generalize ((w.alloc (.cells #[.int .i64 k,.bool b,.int .i64 n,.string t,.string x,.slice ao l.length cap] 38)).alloc (.cells #[.int .i64 k2,.bool b2,.int .i64 n2,.string t2,.string x2,.slice ao2 l2.length cap2] 38)).drew=V0 at *
  refine tkS [0,1,2,3,4,5] ?_
  iterate 6
   refine tkC ?_ rfl (fun w' hS=>?_) hS ?_
   rotate_left
   ·
    have y0:=hS.pa.cell 0 rfl
    have y1:=hS.pa.cell 1 rfl
    have y2:=hS.pa.cell 2 rfl
    have y3:=hS.pa.cell 3 rfl
    have y4:=hS.pa.cell 4 rfl
    have y5:=hS.pa.cell 5 rfl
    have z0:=hS.qb.cell 0 rfl
    have z1:=hS.qb.cell 1 rfl
    have z2:=hS.qb.cell 2 rfl
    have z3:=hS.qb.cell 3 rfl
    have z4:=hS.qb.cell 4 rfl
    have z5:=hS.qb.cell 5 rfl
    have e0:=hS.eb.cell 0 rfl
    go_simp
    try with_reducible rfl
  refine rdH 6 rfl (fun K hK=>?_)
  clear hS
  go_simp
  refine(cL.out V0 hW1.below).mono ?_
  rintro e w2 ⟨rfl,hb2⟩
  go_wp2_with fail
  refine hKo hK (hW1.on hb2) (fun hS=>?_)
  clear hK K
  have hW2:=Hd (hW1.on hb2)
  refine tkH 7 ?_ rfl (fun w' hS=>?_) hS ?_
  rotate_left
  ·
   skip
   go_simp
   try with_reducible rfl
  refine wpAnyH_done (by kernel_rfl) ?_ _
  clear hS
  go_wp2
  go_ret
  exact⟨_,rfl,rL.out,hW2.out.below⟩
 ·go_enter Tryz.func42,Tryz.ntmps42
  go_upto_region 11 with fail
  have hW1:HoW w ((w.alloc (.cells #[.int .i64 k,.bool b,.int .i64 n,.string t,.string x,.slice ao l.length cap] 38)).alloc (.cells #[.int .i64 k2,.bool b2,.int .i64 n2,.string t2,.string x2,.slice ao2 l2.length cap2] 38)).drew eb w.heap.size (w.heap.size+1) #[.int .i64 k,.bool b,.int .i64 n,.string t,.string x,.slice ao l.length cap] #[.int .i64 k2,.bool b2,.int .i64 n2,.string t2,.string x2,.slice ao2 l2.length cap2] iv:=hW0.out.on (Below_drewN 1 (Below.refl _ _))
  refine wp_region_held_drew (S:=fun V=>HoW w V eb w.heap.size (w.heap.size+1) #[.int .i64 k,.bool b,.int .i64 n,.string t,.string x,.slice ao l.length cap] #[.int .i64 k2,.bool b2,.int .i64 n2,.string t2,.string x2,.slice ao2 l2.length cap2] iv) (by kernel_rfl) hW1 (fun hS=>?_)
  clear hW0
  generalize ((w.alloc (.cells #[.int .i64 k,.bool b,.int .i64 n,.string t,.string x,.slice ao l.length cap] 38)).alloc (.cells #[.int .i64 k2,.bool b2,.int .i64 n2,.string t2,.string x2,.slice ao2 l2.length cap2] 38)).drew=V0 at *
  refine tkS [0,1,2,3,4,5,7,8,9,10,11,12] ?_
  iterate 12
   refine tkC ?_ rfl (fun w' hS=>?_) hS ?_
   rotate_left
   ·
    have y0:=hS.pa.cell 0 rfl
    have y1:=hS.pa.cell 1 rfl
    have y2:=hS.pa.cell 2 rfl
    have y3:=hS.pa.cell 3 rfl
    have y4:=hS.pa.cell 4 rfl
    have y5:=hS.pa.cell 5 rfl
    have z0:=hS.qb.cell 0 rfl
    have z1:=hS.qb.cell 1 rfl
    have z2:=hS.qb.cell 2 rfl
    have z3:=hS.qb.cell 3 rfl
    have z4:=hS.qb.cell 4 rfl
    have z5:=hS.qb.cell 5 rfl
    have e0:=hS.eb.cell 0 rfl
    go_simp
    try with_reducible rfl
  refine rdH 6 rfl (fun K hK=>?_)
  clear hS
  go_simp
  refine(cL.out V0 hW1.below).mono ?_
  rintro e w2 ⟨rfl,hb2⟩
  go_wp2_with fail
  refine hKo hK (hW1.on hb2) (fun hS=>?_)
  clear hK K
  have hW2:=Hd (hW1.on hb2)
  refine rdH 13 rfl (fun K hK=>?_)
  clear hS
  go_simp
  refine(cE.out w2 hW2.out.below).mono ?_
  rintro e w3 ⟨rfl,hb3⟩
  go_wp2_with fail
  refine hKo hK (hW2.out.on hb3) (fun hS=>?_)
  clear hK K
  have hW3:=Hd (hW2.out.on hb3)
  refine rdH 14 rfl (fun K hK=>?_)
  clear hS
  go_simp
  refine(or_any vL vE w3).mono ?_
  rintro e w4 ⟨rfl,m,rfl⟩
  go_wp2_with fail
  refine hKo hK (hW3.out.on (Below_drewN m (Below.refl _ _))) (fun hS=>?_)
  clear hK K
  refine tkH 15 ?_ rfl (fun w' hS=>?_) hS ?_
  rotate_left
  ·
   skip
   go_simp
   try with_reducible rfl
  refine wpAnyH_done (by kernel_rfl) ?_ _
  clear hS
  go_wp2
  go_ret
  exact⟨_,rfl,or3_in _ _,Below_drewN m hW3.out.below⟩
 ·go_enter Tryz.func42,Tryz.ntmps42
  go_upto_region 9 with fail
  have hW1:HoW w ((w.alloc (.cells #[.int .i64 k,.bool b,.int .i64 n,.string t,.string x,.slice ao l.length cap] 38)).alloc (.cells #[.int .i64 k2,.bool b2,.int .i64 n2,.string t2,.string x2,.slice ao2 l2.length cap2] 38)).drew eb w.heap.size (w.heap.size+1) #[.int .i64 k,.bool b,.int .i64 n,.string t,.string x,.slice ao l.length cap] #[.int .i64 k2,.bool b2,.int .i64 n2,.string t2,.string x2,.slice ao2 l2.length cap2] iv:=hW0.out.on (Below_drewN 1 (Below.refl _ _))
  refine wp_region_held_drew (S:=fun V=>HoW w V eb w.heap.size (w.heap.size+1) #[.int .i64 k,.bool b,.int .i64 n,.string t,.string x,.slice ao l.length cap] #[.int .i64 k2,.bool b2,.int .i64 n2,.string t2,.string x2,.slice ao2 l2.length cap2] iv) (by kernel_rfl) hW1 (fun hS=>?_)
  clear hW0
  generalize ((w.alloc (.cells #[.int .i64 k,.bool b,.int .i64 n,.string t,.string x,.slice ao l.length cap] 38)).alloc (.cells #[.int .i64 k2,.bool b2,.int .i64 n2,.string t2,.string x2,.slice ao2 l2.length cap2] 38)).drew=V0 at *
  refine tkS [0,1,2,3,4,5] ?_
  iterate 6
   refine tkC ?_ rfl (fun w' hS=>?_) hS ?_
   rotate_left
   ·
    have y0:=hS.pa.cell 0 rfl
    have y1:=hS.pa.cell 1 rfl
    have y2:=hS.pa.cell 2 rfl
    have y3:=hS.pa.cell 3 rfl
    have y4:=hS.pa.cell 4 rfl
    have y5:=hS.pa.cell 5 rfl
    have z0:=hS.qb.cell 0 rfl
    have z1:=hS.qb.cell 1 rfl
    have z2:=hS.qb.cell 2 rfl
    have z3:=hS.qb.cell 3 rfl
    have z4:=hS.qb.cell 4 rfl
    have z5:=hS.qb.cell 5 rfl
    have e0:=hS.eb.cell 0 rfl
    go_simp
    try with_reducible rfl
  refine rdH 6 rfl (fun K hK=>?_)
  clear hS
  go_simp
  refine(cG.out V0 hW1.below).mono ?_
  rintro e w2 ⟨rfl,hb2⟩
  go_wp2_with fail
  refine hKo hK (hW1.on hb2) (fun hS=>?_)
  clear hK K
  have hW2:=Hd (hW1.on hb2)
  refine tkH 7 ?_ rfl (fun w' hS=>?_) hS ?_
  rotate_left
  ·
   skip
   go_simp
   try with_reducible rfl
  refine wpAnyH_done (by kernel_rfl) ?_ _
  clear hS
  go_wp2
  go_ret
  exact⟨_,rfl,rG.out,hW2.out.below⟩
 ·go_enter Tryz.func42,Tryz.ntmps42
  go_upto_region 12 with fail
  have hW1:HoW w ((w.alloc (.cells #[.int .i64 k,.bool b,.int .i64 n,.string t,.string x,.slice ao l.length cap] 38)).alloc (.cells #[.int .i64 k2,.bool b2,.int .i64 n2,.string t2,.string x2,.slice ao2 l2.length cap2] 38)).drew eb w.heap.size (w.heap.size+1) #[.int .i64 k,.bool b,.int .i64 n,.string t,.string x,.slice ao l.length cap] #[.int .i64 k2,.bool b2,.int .i64 n2,.string t2,.string x2,.slice ao2 l2.length cap2] iv:=hW0.out.on (Below_drewN 1 (Below.refl _ _))
  refine wp_region_held_drew (S:=fun V=>HoW w V eb w.heap.size (w.heap.size+1) #[.int .i64 k,.bool b,.int .i64 n,.string t,.string x,.slice ao l.length cap] #[.int .i64 k2,.bool b2,.int .i64 n2,.string t2,.string x2,.slice ao2 l2.length cap2] iv) (by kernel_rfl) hW1 (fun hS=>?_)
  clear hW0
  generalize ((w.alloc (.cells #[.int .i64 k,.bool b,.int .i64 n,.string t,.string x,.slice ao l.length cap] 38)).alloc (.cells #[.int .i64 k2,.bool b2,.int .i64 n2,.string t2,.string x2,.slice ao2 l2.length cap2] 38)).drew=V0 at *
  refine tkS [0,1,2,3,4,5,7,8,9,10,11,12] ?_
  iterate 12
   refine tkC ?_ rfl (fun w' hS=>?_) hS ?_
   rotate_left
   ·
    have y0:=hS.pa.cell 0 rfl
    have y1:=hS.pa.cell 1 rfl
    have y2:=hS.pa.cell 2 rfl
    have y3:=hS.pa.cell 3 rfl
    have y4:=hS.pa.cell 4 rfl
    have y5:=hS.pa.cell 5 rfl
    have z0:=hS.qb.cell 0 rfl
    have z1:=hS.qb.cell 1 rfl
    have z2:=hS.qb.cell 2 rfl
    have z3:=hS.qb.cell 3 rfl
    have z4:=hS.qb.cell 4 rfl
    have z5:=hS.qb.cell 5 rfl
    have e0:=hS.eb.cell 0 rfl
    go_simp
    try with_reducible rfl
  refine rdH 6 rfl (fun K hK=>?_)
  clear hS
  go_simp
  refine(cG.out V0 hW1.below).mono ?_
  rintro e w2 ⟨rfl,hb2⟩
  go_wp2_with fail
  refine hKo hK (hW1.on hb2) (fun hS=>?_)
  clear hK K
  have hW2:=Hd (hW1.on hb2)
  refine rdH 13 rfl (fun K hK=>?_)
  clear hS
  go_simp
  refine(cE.out w2 hW2.out.below).mono ?_
  rintro e w3 ⟨rfl,hb3⟩
  go_wp2_with fail
  refine hKo hK (hW2.out.on hb3) (fun hS=>?_)
  clear hK K
  have hW3:=Hd (hW2.out.on hb3)
  refine rdH 14 rfl (fun K hK=>?_)
  clear hS
  go_simp
  refine(or_any vG vE w3).mono ?_
  rintro e w4 ⟨rfl,m,rfl⟩
  go_wp2_with fail
  refine hKo hK (hW3.out.on (Below_drewN m (Below.refl _ _))) (fun hS=>?_)
  clear hK K
  refine tkH 15 ?_ rfl (fun w' hS=>?_) hS ?_
  rotate_left
  ·
   skip
   go_simp
   try with_reducible rfl
  refine wpAnyH_done (by kernel_rfl) ?_ _
  clear hS
  go_wp2
  go_ret
  exact⟨_,rfl,or3_in _ _,Below_drewN m hW3.out.below⟩
end Go.Proofs.YtcaeipdgbaligaaGreatDoor.ex
