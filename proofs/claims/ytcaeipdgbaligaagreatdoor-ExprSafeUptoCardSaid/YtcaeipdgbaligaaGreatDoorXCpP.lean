/- Texts HCT, XCpP, one behind the other. -/
import Derived.Test.YtcaeipdgbaligaaGreatDoorXSortP
set_option linter.unusedSimpArgs false
set_option linter.unusedVariables false
set_option maxRecDepth 100000
set_option maxHeartbeats 4000000
namespace Go.Proofs.YtcaeipdgbaligaaGreatDoor.hyp
open Go.ChangeShapes Go.WideShapes Go.ChangeAt Go.RowKit kit
theorem infoStrC:(Tryz.prog.info? 9).map (fun i=>(i.zero,i.size,i.bytes))=some (some (.string ByteArray.empty),1,16):=by kernel_rfl
theorem wpList_append_run{P:Program}{w:World}{ops:Array Oper}{rest:List Oper}{o:Oper}{a:Act}{Q:Exit→Act→World→Prop}(hgd:o.guard=none)(s x:Operand)(t tn:TypeId)
 (ho:o.op=.call { callee:=.builtin .append,args:=#[s,x],argTypes:=#[t,tn] })(v v' y:Value)(w':World)(hs:a.eval s=v)(hx:a.eval x=y)(hr:(Builtin.append_ #[t,tn] o.type #[v,y]).run P w=.ok v' w')
 (h:wpList P ops Q rest (a.put o.dst v') w'):wpList P ops Q (o::rest) a w:=by
 refine wpList_plain hgd fun K hK=>?_
 unfold Oper.wp execOp
 simp only[ho,resolve,invoke,builtin,Sem.run_bind,Sem.run_pure,Result.andThen_ok,List.map_toArray,List.map_cons,List.map_nil,hs,hx,hr]
 exact hK _ _ h
theorem run_append_none{P:Program}(w:World)(B:Nat)(t ty e:TypeId)(i:TypeInfo)(size:Nat)(ht:P.underlying t=some (.slice e))(hi:P.info? e=some i)(v:Value)(n:Nat)(xs:List Value)(hown:w.ownsRow B e size v n xs)(c:Nat):
 (Builtin.append_ #[t,t] ty #[v,.slice none 0 c]).run P w=.ok v w:=by
 rcases hown.2 with⟨rfl,rfl⟩|⟨g,cap,cur,rfl,_,hg,hn,_⟩
 ·simp[Builtin.append_,run_underlying ht,sizeOf,typeInfo,hi,Builtin.lenOf,Builtin.firstCells,loadCells,loadCellsFrom]
 ·simp[Builtin.append_,run_underlying ht,sizeOf,typeInfo,hi,Builtin.lenOf,Builtin.firstCells,hn,storeCells]
theorem copyT_any(w:World)(v:Value)(l:List ByteArray)(h:TextsA w w.heap.size v l)(hl:l.length≤1048576):
 Calls Tryz.prog 52 #[v] w fun e w'=>∃u,e=.returned u∧OW 9 w w.heap.size u (textsV l) w':=by
 obtain⟨i0,hi,hz0,hz1,hz2⟩:=info_parts infoStrC
 have hnil:=World.ownsRow_nil w w.heap.size 9 1
 replace hi:=Hd hi
 replace hz0:=Hd hz0
 replace hz1:=Hd hz1
 replace hz2:=Hd hz2
 have hgrow:∀(v':Value) (w':World),w'.ownsRow w.heap.size 9 1 v' (0+(textsV l).length) ([]++textsV l)→w.grownBy w' (Value.ownBlock (.slice none 0 0))→OW 9 w w.heap.size v' (textsV l) w':=by
  intro v' w' h1 h2
  rw[Nat.zero_add,List.nil_append]at h1
  exact⟨⟨h2.os,h2.tape,h2.output,h2.size,fun k hk=>h2.block k hk (by simp[Value.ownBlock])⟩,h1⟩
 replace hgrow:=Hd hgrow
 obtain⟨L,hL⟩:∃L,textsV l=L:=⟨_,rfl⟩
 have hlen:L.length=l.length:=by rw[←hL,textsV_length]
 have hrow:=h.row
 have hone:∀u∈L,u.oneCell'=true:=fun u hu=>by
  rw[←hL]at hu
  obtain⟨s,-,rfl⟩:=List.mem_map.1 hu
  rfl
 rw[hL]at hgrow hrow ⊢
 clear h hL
 rcases hrow with⟨ao,cap,rfl,rfl⟩|⟨b,off,cap,rfl,h0,hc,hb,hj⟩
 ·rcases ao with _|ad
  ·have hrun:=run_append_none (P:=Tryz.prog) w w.heap.size 23 23 9 i0 1 Tryz.underlying23 hi.out (.slice none 0 0) 0 [] hnil cap
   replace hrun:=Hd hrun
   go_enter Tryz.func52,Tryz.ntmps52
   go_wp2_with (at_builtin;refine wpList_append_run rfl _ _ 23 23 rfl _ _ _ _ rfl rfl hrun.out ?_)
   go_ret
   exact⟨_,rfl,OW.start _ _ _⟩
  ·go_enter Tryz.func52,Tryz.ntmps52
   go_wp2_with (at_builtin;refine wpList_append_own _ rfl _ _ 23 rfl w.heap.size 9 i0 (.string ByteArray.empty) 1 16 Tryz.underlying23 hi.out hz0.out hz1.out hz2.out rfl (by decide) _ 0 [] rfl hnil _ 0 _ [] rfl rfl ?c1 ?c2 ?c3 ?c4 ?c5 ?c6)
   case c1=>intro j u h;simp at h
   case c2=>intro u h;cases h
   case c3=>simp only[maxLen];omega
   case c4=>omega
   case c5=>exact Nat.le_refl _
   case c6=>
    intro v' w' h1 h2 _
    have h3:=hgrow.out v' w' h1 h2
    go_wp2
    go_ret
    exact⟨_,rfl,h3⟩
 ·go_enter Tryz.func52,Tryz.ntmps52
  go_wp2_with (at_builtin;refine wpList_append_own _ rfl _ _ 23 rfl w.heap.size 9 i0 (.string ByteArray.empty) 1 16 Tryz.underlying23 hi.out hz0.out hz1.out hz2.out rfl (by decide) _ 0 [] rfl hnil _ L.length _ L rfl ?d0 ?d1 ?d2 ?d3 ?d4 ?d5 ?d6)
  case d0=>simp
  case d1=>exact RowA.news hj
  case d2=>exact hone
  case d3=>simp only[maxLen];omega
  case d4=>omega
  case d5=>exact Nat.le_refl _
  case d6=>
   intro v' w' h1 h2 _
   have h3:=hgrow.out v' w' (by rw[Nat.zero_add,List.nil_append,hlen];exact h1) h2
   go_wp2
   go_ret
   exact⟨_,rfl,h3⟩
end Go.Proofs.YtcaeipdgbaligaaGreatDoor.hyp
set_option linter.unusedSimpArgs false
set_option linter.unusedVariables false
set_option maxHeartbeats 4000000
namespace Go.Proofs.YtcaeipdgbaligaaGreatDoor.ex
open Go.ChangeShapes Go.WideShapes Go.ChangeAt Go.RowKit kit dec val tab
open hyp (RowA TextsA textsV textsV_length)
set_option maxRecDepth 100000
def KOwn(K:Nat→Value→Prop)(e:TypeId)(size B:Nat)(w:World)(v:Value)(n:Nat):Prop:=∃xs,w.ownsRow B e size v n xs∧∀j u,xs[j]? = some u→K j u
theorem KOwn.nil(K:Nat→Value→Prop)(e:TypeId)(size B:Nat)(w:World):KOwn K e size B w (.slice none 0 0) 0:=⟨[],World.ownsRow_nil _ _ _ _,fun j u h=>by simp at h⟩
theorem KOwn.stay{K:Nat→Value→Prop}{e:TypeId}{size B n:Nat}{w w':World}{v:Value}(h:KOwn K e size B w v n)(hb:Below w.heap.size w w'):KOwn K e size B w' v n:=by
 obtain⟨xs,h1,h2⟩:=h
 exact⟨xs,own_stay h1 fun g hg=>hb.block g (h1.lt g hg).2,h2⟩
theorem KOwn.mono{K K':Nat→Value→Prop}{e:TypeId}{size B n:Nat}{w:World}{v:Value}(h:KOwn K e size B w v n)(hK:∀j u,K j u→K' j u):KOwn K' e size B w v n:=by
 obtain⟨xs,h1,h2⟩:=h
 exact⟨xs,h1,fun j u hj=>hK j u (h2 j u hj)⟩
theorem KOwn.set{K:Nat→Value→Prop}{e t:TypeId}{size B n b:Nat}{w:World}{v:Value}{cs:Array Value}(h:KOwn K e size B w v n)(hq:Blk w b cs t)(hne:e≠t)(i:Nat)(u:Value):KOwn K e size B (w.setCell ⟨b,i,none⟩ u) v n:=by
 obtain⟨xs,h1,h2⟩:=h
 refine⟨xs,own_stay h1 fun g hg=>heap_setCell_other w _ g u fun e2=>?_,h2⟩
 rcases h1.2 with⟨rfl,-⟩|⟨g2,cap,cur,rfl,_,hg2,_⟩
 ·cases hg
 ·have e3:g2=g:=by injection hg
  subst e3
  subst e2
  exact hne (type_one (c1:=cur) (c2:=cs) hg2 hq)
theorem KOwn.row{K:Nat→Value→Prop}{e:TypeId}{size B n:Nat}{w:World}{v:Value}(h:KOwn K e size B w v n):∃a c,v=.slice a n c∧(0<n→∃g,a=some ⟨g,0,none⟩∧B≤g∧KRow K e w g (n * size)):=by
 obtain⟨xs,h1,h2⟩:=h
 rcases h1.2 with⟨rfl,rfl⟩|⟨g,cap,cur,rfl,hB,hg,hn,hc,hs,ht⟩
 ·exact⟨none,0,rfl,fun h=>absurd h (by omega)⟩
 ·refine⟨_,cap,rfl,fun _=>⟨g,rfl,hB,cur,hg,fun j hj=>?_⟩⟩
  have hlt:j<cur.size:=by rw[hs];exact Nat.lt_of_lt_of_le hj (Nat.mul_le_mul_right _ hn)
  have hx:xs[j]? = some cur[j]:=by
   rw[←ht,List.getElem?_take,if_pos hj]
   simp[hlt]
  exact⟨cur[j],by simp[hlt],h2 j _ hx⟩
theorem GS.grown{e:TypeId}{size B n:Nat}{w w':World}{v:Value}{K:Nat→Value→Prop}(h:KOwn K e size B w v n)(hB:B≤w.heap.size)(h1:e≠9)(h2:e≠106)(hg:w.grownBy w' v.ownBlock):GS B w w':=by
 obtain⟨xs,ho,-⟩:=h
 rcases ho.2 with⟨rfl,-⟩|⟨g,cap,cur,rfl,hBg,hq,-⟩
 ·exact GS.of_below hB (Keep.grown (Keep.refl [] w) hg (fun k e=>by cases e)).below
 ·exact GS.of_keep hB hBg (cs:=cur) (t:=e) hq h1 h2 (Keep.grown (Keep.refl [g] w) hg (fun k e _=>by injection e with e;rw[←e];exact List.mem_singleton.2 rfl))
theorem KOwn.free{e:TypeId}{size B n:Nat}{w w':World}{v:Value}{K:Nat→Value→Prop}(h:KOwn K e size B w v n)(hg:w.grownBy w' v.ownBlock){b:Nat}{cs:Array Value}{t:TypeId}(hne:e≠t)(hq:Blk w b cs t):Blk w' b cs t:=by
 obtain⟨xs,ho,-⟩:=h
 refine(hg.block b hq.lt fun e2=>?_).trans hq
 rcases ho.2 with⟨rfl,-⟩|⟨g,cap,cur,rfl,hBg,hq2,-⟩
 ·cases e2
 ·have e3:g=b:=by injection e2 with e2;exact e2.symm
  subst e3
  exact hne (type_one (c1:=cur) (c2:=cs) hq2 hq)
theorem KOwn.under{e:TypeId}{size B n:Nat}{a w w':World}{v:Value}{K:Nat→Value→Prop}(h:KOwn K e size B w v n)(hg:w.grownBy w' v.ownBlock)(hb:Below B a w)(hB:B≤w.heap.size):Below B a w':=by
 obtain⟨xs,ho,-⟩:=h
 refine hb.grown hg hB fun g e=>?_
 rcases ho.2 with⟨rfl,-⟩|⟨g2,cap,cur,rfl,hBg,-⟩
 ·cases e
 ·have e3:g2=g:=by injection e
  omega
section
variable{K:Nat→Value→Prop}{t e:TypeId}{size bytes B n g c:Nat}{cs:Array Value}{v:Value}
theorem wp_kpush{w:World}{o:Oper}{a:Act}{K':Act→World→Prop}{Q:Exit→Act→World→Prop}(s x:Operand)(t e:TypeId)(size bytes:Nat)
 (ho:o.op=.call { callee:=.builtin .append,args:=#[s,x],argTypes:=#[t,t] })
 (ht:Tryz.prog.underlying t=some (.slice e))(hinf:(Tryz.prog.info? e).map (fun i=>(i.zero.map (·.cells.size),i.size,i.bytes))=some (some size,size,bytes))(hsz:0<size)(hby:bytes≤1024)
 (B n:Nat)(v:Value)(hs:a.eval s=v)(hown:KOwn K e size B w v n)(g c:Nat)(cs:Array Value)(hx:a.eval x=.slice (some ⟨g,0,none⟩) 1 c)(hq:Blk w g cs e)(hcs:cs.size=size)
 (hk:∀j u,cs[j]? = some u→K (n * size+j) u∧u.oneCell'=true)(hn:n<1048576)(hB:B≤w.heap.size)
 (hK:∀v' w',KOwn K e size B w' v' (n+1)→w.grownBy w' v.ownBlock→K' (a.put o.dst v') w'):o.wp Tryz.prog a w K' Q:=by
 obtain⟨i0,hi,hp⟩:=Option.map_eq_some_iff.1 hinf
 have hz2:i0.size=size:=congrArg (fun p=>p.2.1) hp
 have hz3:i0.bytes=bytes:=congrArg (fun p=>p.2.2) hp
 have hz1:i0.zero.map (·.cells.size)=some size:=congrArg (fun p=>p.1) hp
 obtain⟨z,hz,hzs⟩:=Option.map_eq_some_iff.1 hz1
 obtain⟨xs,h1,h2⟩:=hown
 have hl:=h1.1
 refine wp_append_own w s x t ho B e i0 z size bytes ht hi hz hz2 hz3 hzs hsz v n xs hs h1 ⟨g,0,none⟩ 1 c cs.toList hx (by rw[Array.length_toList,hcs,Nat.one_mul]) (fun j u hj=>?_) (fun u hu=>?_) (by unfold maxLen;omega)
  (Nat.le_trans (Nat.mul_le_mul (show n+1≤1048576 from hn) hby) (by decide)) hB (fun v' w' h3 h4 _=>hK v' w' ⟨_,h3,fun j u hj=>?_⟩ h4)
 ·rw[Go.WideShapes.add_plain,Nat.zero_add]
  exact hq.cell j (by simpa using hj)
 ·obtain⟨j,hj,rfl⟩:=List.getElem_of_mem hu
  exact(hk j _ (by simp at hj;simp[hj])).2
 ·by_cases hlt:j<xs.length
  ·rw[List.getElem?_append_left hlt]at hj
   exact h2 j u hj
  ·rw[List.getElem?_append_right (by omega)]at hj
   have:=(hk (j-xs.length) u (by simpa using hj)).1
   rwa [←hl,show xs.length+(j-xs.length)=j by omega]at this
theorem wpList_kpush{w:World}{ops:Array Oper}{rest:List Oper}{o:Oper}{a:Act}{Q:Exit→Act→World→Prop}(hgd:o.guard=none)(s x:Operand)(t e:TypeId)(size bytes:Nat)
 (ho:o.op=.call { callee:=.builtin .append,args:=#[s,x],argTypes:=#[t,t] })
 (ht:Tryz.prog.underlying t=some (.slice e))(hinf:(Tryz.prog.info? e).map (fun i=>(i.zero.map (·.cells.size),i.size,i.bytes))=some (some size,size,bytes))(hsz:0<size)(hby:bytes≤1024)
 (B n:Nat)(v:Value)(hs:a.eval s=v)(hown:KOwn K e size B w v n)(g c:Nat)(cs:Array Value)(hx:a.eval x=.slice (some ⟨g,0,none⟩) 1 c)(hq:Blk w g cs e)(hcs:cs.size=size)
 (hk:∀j u,cs[j]? = some u→K (n * size+j) u∧u.oneCell'=true)(hn:n<1048576)(hB:B≤w.heap.size)
 (hK:∀v' w',KOwn K e size B w' v' (n+1)→w.grownBy w' v.ownBlock→wpList Tryz.prog ops Q rest (a.put o.dst v') w'):wpList Tryz.prog ops Q (o::rest) a w:=
 wpList_plain hgd fun _ hK'=>wp_kpush s x t e size bytes ho ht hinf hsz hby B n v hs hown g c cs hx hq hcs hk hn hB fun v' w' h2 h3=>hK' _ _ (hK v' w' h2 h3)
end
theorem infoP7:(Tryz.prog.info? 106).map (fun i=>(i.zero.map (·.cells.size),i.size,i.bytes))=some (some 7,7,96):=by kernel_rfl
theorem pair_mk(k:Nat)(s:ByteArray)(i1:Int)(q:Bool)(i2:Int)(s1 s2:ByteArray)(a:Option Addr)(l c:Nat):∀j u,(#[.string s,.int .i64 i1,.bool q,.int .i64 i2,.string s1,.string s2,.slice a l c]:Array Value)[j]? = some u→PairK (k * 7+j) u∧u.oneCell'=true:=by
 intro j u hj
 have hlt:j<7:=(Array.getElem?_eq_some_iff.1 hj).1
 unfold PairK
 rw[show(k * 7+j) % 7=j by omega]
 rcases j with _|_|_|_|_|_|_|j
 all_goals first
  |omega
  |(simp at hj;subst hj;exact⟨⟨_,rfl⟩,rfl⟩)
  |(simp at hj;subst hj;exact⟨⟨_,_,_,rfl⟩,rfl⟩)
def CpP(w:World)(e:Ending)(w':World):Prop:=∃u,e=.returned u∧Below w.heap.size w w'∧PrpS w.heap.size w' u
theorem copyProps_any(w:World)(v:Value)(l:List (ByteArray×V))(h:PairsA w 1048576 v l):Calls Tryz.prog 53 #[v] w (CpP w):=by
 obtain⟨ao,cap,rfl,-,-⟩:=id h
 obtain⟨-,hn,hp⟩:=pair_at h
 clear h
 generalize l.length=n at *
 have hni:(n:Int)≤1048576:=by omega
 replace hp:=Hd hp
 go_enter Tryz.func53,Tryz.ntmps53
 go_wp2
 go_loopw [3,4] (fun x i wr=>∃(k:Nat) (r:Value),r=x∧k≤n∧i=.int .i64 (k:Int)∧Hid (KOwn PairK 106 7 w.heap.size wr r k)∧Hid (Below w.heap.size w wr)) (fun _ i _=>n-(intOf i).toNat)
 case atStart=>exact⟨0,_,rfl,by omega,rfl,Hd (KOwn.nil _ _ _ _ _),Hd (Below.refl _ _)⟩
 case round=>
  obtain⟨i,r,rfl,hi,rfl,hown,hb⟩:=hrel
  obtain⟨u,rfl⟩:∃u:World,u=wr:=⟨_,rfl⟩
  by_cases hlt:i<n
  ·have hii:(i:Int)<(n:Int):=by omega
   obtain⟨b,off,key,k1,bo,nn,t,x,l1,aoE,capE,rfl,hbl,x0,hr,hl1,ht,hx⟩:=hp.out i hlt
   have hbd:Below w.heap.size w u.drew:=Below_drewN 1 hb.out
   have hod:Hid (KOwn PairK 106 7 w.heap.size u.drew r i):=hown
   have cV:=copyValue_of 1048576 (SizeOf.sizeOf l1+1) (copyRow_all 1048576 (Nat.le_refl _) _) u.drew k1 bo nn t x _ l1 (Nat.lt_succ_self _) (hl1.stay hbd)
   unfold agg6 at cV
   replace cV:=Hd cV
   have hbz:=hb.out.size
   go_upto_region 5 with fail
   refine wp_region_held_drew (S:=fun V=>Below w.heap.size w V) (by kernel_rfl) hbd (fun hS=>?_)
   generalize u.drew=V0 at *
   refine tkS [0,1,2,3,4,5,6,7,8,9,10] ?_
   iterate 11
    refine tkC ?_ rfl (fun w' hS=>?_) hS ?_
    rotate_left
    ·
     have y:=(hS.cell (p:=⟨b,off+i * 7,none⟩) hbl).trans x0;obtain⟨y0,y1,y2,y3,y4,y5⟩:=(hr.below hS).six
     go_simp
     try with_reducible rfl
   refine rdH 11 rfl (fun K hK=>?_)
   clear hS
   go_simp
   refine(cV.out).mono ?_
   rintro e w2 ⟨ao2,cap2,rfl,hb2,-⟩
   go_wp2_with fail
   refine hKo hK (hbd.trans (hb2.mono hbd.size)) (fun hS=>?_)
   clear hK K
   have hbd2:=hbd.trans (hb2.mono hbd.size)
   have ho2:=hod.out.stay hb2
   clear hbd hb2 hod cV
   refine tkH 12 ?_ rfl (fun w' hS=>?_) hS ?_
   rotate_left
   ·
    skip
    go_simp
    try with_reducible rfl
   refine rdH 13 rfl (fun K hK=>?_)
   clear hS
   go_simp
   go_wp2_with fail
   have hal:Below w2.heap.size w2 (w2.alloc (.cells #[.string key,.int .i64 k1,.bool bo,.int .i64 nn,.string t,.string x,.slice ao2 l1.length cap2] 106)):=(Below.refl _ _).alloc (Nat.le_refl _) _
   have hq2:=Blk.new w2 #[.string key,.int .i64 k1,.bool bo,.int .i64 nn,.string t,.string x,.slice ao2 l1.length cap2] 106
   have hbd3:=hbd2.trans (hal.mono hbd2.size)
   have ho3:=ho2.stay hal
   refine hKo hK hbd3 (fun hS=>?_)
   clear hK K hbd2 ho2 hal
   refine rdH 14 rfl (fun K hK=>?_)
   clear hS
   rw[if_pos (by kernel_rfl)]
   refine wp_kpush (.tmp 11) (.tmp 24) 74 106 7 96 rfl Tryz.underlying74 infoP7 (by decide) (by decide) w.heap.size i r rfl ho3 w2.heap.size _ _ rfl hq2 rfl (pair_mk i key k1 bo nn t x ao2 l1.length cap2) (by omega) hbd3.size (fun v' w' ho4 hg=>?_)
   have hb4:=ho3.under hg hbd3 hbd3.size
   refine hKo hK hb4 (fun hS=>?_)
   clear hK K ho3 hbd3 hq2 hg
   refine tkH 15 ?_ rfl (fun w' hS=>?_) hS ?_
   rotate_left
   ·
    skip
    go_simp
    try with_reducible rfl
   refine wpAnyH_done (by kernel_rfl) ?_ _
   clear hS
   replace ho4:=Hd ho4
   replace hb4:=Hd hb4
   clear hbl x0 hr hl1 hown hb hbz
   go_wp2
   go_roundw
   case rel=>exact⟨i+1,_,rfl,hlt,by go_num,ho4,hb4⟩
   case measure=>simp[intOf];omega
  ·have hii:¬(i:Int)<(n:Int):=by omega
   obtain rfl:i=n:=by omega
   have hp2:Hid (PrpS w.heap.size u r):=by
    obtain⟨a,c,e,h⟩:=hown.out.row
    exact Hd ⟨a,i,c,e,hn,h⟩
   obtain⟨a,m,c,rfl,-,-⟩:=id hp2.out
   go_wp2
   go_ret
   exact⟨_,rfl,hb.out,hp2.out⟩
end Go.Proofs.YtcaeipdgbaligaaGreatDoor.ex
