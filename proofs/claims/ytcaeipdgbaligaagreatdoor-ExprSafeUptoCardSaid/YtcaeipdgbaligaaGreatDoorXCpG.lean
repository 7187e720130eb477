/- The reference's CopyGraph: what is copied stands in blocks of its own, whose cells' kinds are known. -/
import Derived.Test.YtcaeipdgbaligaaGreatDoorXCpP
set_option linter.unusedSimpArgs false
set_option linter.unusedVariables false
set_option maxHeartbeats 8000000
namespace Go.Proofs.YtcaeipdgbaligaaGreatDoor.ex
open Go.ChangeShapes Go.WideShapes Go.ChangeAt Go.RowKit kit dec val tab
open hyp (RowA TextsA textsV textsV_length OW)
set_option maxRecDepth 100000
theorem infoN3:(Tryz.prog.info? 76).map (fun i=>(i.zero.map (·.cells.size),i.size,i.bytes))=some (some 3,3,56):=by kernel_rfl
theorem infoE5:(Tryz.prog.info? 81).map (fun i=>(i.zero.map (·.cells.size),i.size,i.bytes))=some (some 5,5,64):=by kernel_rfl
theorem infoG2:(Tryz.prog.info? 28).map (·.size)=some 2:=by kernel_rfl
theorem OW.labs{w w':World}{u:Value}{l:List ByteArray}{B:Nat}(h:OW 9 w w.heap.size u (textsV l) w')(hl:l.length≤1048576)(hB:B≤w.heap.size):LabS B w' u:=by
 have ho:=h.own
 have hk:KOwn TxK 9 1 w.heap.size w' u (textsV l).length:=⟨_,ho,fun j x hj=>by
  obtain⟨s,-,e⟩:=List.mem_map.1 (List.mem_of_getElem? hj)
  exact⟨s,e.symm⟩⟩
 rw[textsV_length]at hk
 obtain⟨a,c,e,h⟩:=hk.row
 refine⟨a,l.length,c,e,hl,fun h0=>?_⟩
 obtain⟨g,e1,e2,e3⟩:=h h0
 rw[Nat.mul_one]at e3
 exact⟨g,e1,by omega,e3⟩
theorem PrpS.low{B B':Nat}{w:World}{v:Value}(h:PrpS B w v)(hB:B'≤B):PrpS B' w v:=by
 obtain⟨a,n,c,e,hn,h⟩:=h
 refine⟨a,n,c,e,hn,fun h0=>?_⟩
 obtain⟨g,e1,e2,e3⟩:=h h0
 exact⟨g,e1,by omega,e3⟩
theorem PrpS.one{B:Nat}{w:World}{v:Value}(h:PrpS B w v):v.oneCell'=true:=by
 obtain⟨a,n,c,rfl,-⟩:=h
 rfl
theorem LabS.one{B:Nat}{w:World}{v:Value}(h:LabS B w v):v.oneCell'=true:=by
 obtain⟨a,n,c,rfl,-⟩:=h
 rfl
theorem node_new{B:Nat}{w:World}(k:Nat){d:Int}{lv pv:Value}(hl:LabS B w lv)(hp:PrpS B w pv):∀j u,(#[.int .i64 d,lv,pv]:Array Value)[j]? = some u→NodeK B w (k * 3+j) u∧u.oneCell'=true:=by
 intro j u hj
 obtain⟨h0,h1,h2⟩:=node_mk k (d:=d) hl hp
 have hlt:j<3:=(Array.getElem?_eq_some_iff.1 hj).1
 rcases j with _|_|_|j
 ·simp at hj;subst hj;exact⟨h0,rfl⟩
 ·simp at hj;subst hj;exact⟨h1,hl.one⟩
 ·simp at hj;subst hj;exact⟨h2,hp.one⟩
 ·omega
theorem edge_new{B:Nat}{w:World}(k:Nat){d1 d2 d3:Int}{s:ByteArray}{pv:Value}(hp:PrpS B w pv):∀j u,(#[.int .i64 d1,.int .i64 d2,.int .i64 d3,.string s,pv]:Array Value)[j]? = some u→EdgeK B w (k * 5+j) u∧u.oneCell'=true:=by
 intro j u hj
 obtain⟨h0,h1,h2,h3,h4⟩:=edge_mk k (d1:=d1) (d2:=d2) (d3:=d3) (s:=s) hp
 have hlt:j<5:=(Array.getElem?_eq_some_iff.1 hj).1
 rcases j with _|_|_|_|_|j
 ·simp at hj;subst hj;exact⟨h0,rfl⟩
 ·simp at hj;subst hj;exact⟨h1,rfl⟩
 ·simp at hj;subst hj;exact⟨h2,rfl⟩
 ·simp at hj;subst hj;exact⟨h3,rfl⟩
 ·simp at hj;subst hj;exact⟨h4,hp.one⟩
 ·omega
structure CgN(w:World)(gi:Array Value)(V:World)(v:Value)(k:Nat):Prop where
 qi:Blk V w.heap.size gi 28
 qr:Blk V (w.heap.size+1) #[.slice none 0 0,.slice none 0 0] 28
 qo:Blk V (w.heap.size+1+1) #[v,.slice none 0 0] 28
 own:KOwn (NodeK w.heap.size V) 76 3 w.heap.size V v k
 hb:Below w.heap.size w V
structure CgE(w:World)(gi:Array Value)(V:World)(x v:Value)(k:Nat):Prop where
 qi:Blk V w.heap.size gi 28
 qr:Blk V (w.heap.size+1) #[.slice none 0 0,.slice none 0 0] 28
 qo:Blk V (w.heap.size+1+1) #[x,v] 28
 nod:NodS w.heap.size V x
 own:KOwn (EdgeK w.heap.size V) 81 5 w.heap.size V v k
 hb:Below w.heap.size w V
theorem NodS.below{B:Nat}{w w':World}{v:Value}(h:NodS B w v)(hB:B≤w.heap.size)(hb:Below w.heap.size w w'):NodS B w' v:=
 h.go (GS.of_below hB hb) fun b cs hq=>(hb.block _ hq.lt).trans hq
theorem CgN.stay{w V V':World}{gi:Array Value}{v:Value}{k:Nat}(h:CgN w gi V v k)(hb:Below V.heap.size V V'):CgN w gi V' v k:=
 ⟨(hb.block _ h.qi.lt).trans h.qi,(hb.block _ h.qr.lt).trans h.qr,(hb.block _ h.qo.lt).trans h.qo,(h.own.stay hb).mono fun j u hu=>hu.gs (GS.of_below h.hb.size hb),h.hb.trans (hb.mono h.hb.size)⟩
theorem CgE.stay{w V V':World}{gi:Array Value}{x v:Value}{k:Nat}(h:CgE w gi V x v k)(hb:Below V.heap.size V V'):CgE w gi V' x v k:=
 ⟨(hb.block _ h.qi.lt).trans h.qi,(hb.block _ h.qr.lt).trans h.qr,(hb.block _ h.qo.lt).trans h.qo,h.nod.below h.hb.size hb,(h.own.stay hb).mono fun j u hu=>hu.gs (GS.of_below h.hb.size hb),h.hb.trans (hb.mono h.hb.size)⟩
theorem CgN.put{w V V':World}{gi:Array Value}{v v':Value}{k:Nat}(h:CgN w gi V v k)(ho:KOwn (NodeK w.heap.size V) 76 3 w.heap.size V' v' (k+1))(hg:V.grownBy V' v.ownBlock):
 CgN w gi (V'.setCell ⟨w.heap.size+1+1,0,none⟩ v') v' (k+1):=by
 have hgs:=GS.grown h.own h.hb.size (by decide) (by decide) hg
 have q1:=h.own.free hg (by decide) h.qi
 have q2:=h.own.free hg (by decide) h.qr
 have q3:=h.own.free hg (by decide) h.qo
 have hb:=h.own.under hg h.hb h.hb.size
 have hgs2:GS w.heap.size V' (V'.setCell ⟨w.heap.size+1+1,0,none⟩ v'):=GS.of_keep hb.size (by omega) q3 (by decide) (by decide) ((Keep.refl [w.heap.size+1+1] V').setCell (by simp) v')
 exact⟨q1.set_other _ (by simp;omega) _,q2.set_other _ (by simp) _,q3.set 0 v',(ho.mono fun j u hu=>hu.gs (hgs.trans hgs2)).set q3 (by decide) 0 v',hb.setCell (p:=⟨w.heap.size+1+1,0,none⟩) (by simp;omega) v'⟩
theorem CgE.put{w V V':World}{gi:Array Value}{x v v':Value}{k:Nat}(h:CgE w gi V x v k)(ho:KOwn (EdgeK w.heap.size V) 81 5 w.heap.size V' v' (k+1))(hg:V.grownBy V' v.ownBlock):
 CgE w gi (V'.setCell ⟨w.heap.size+1+1,1,none⟩ v') x v' (k+1):=by
 have hgs:=GS.grown h.own h.hb.size (by decide) (by decide) hg
 have q1:=h.own.free hg (by decide) h.qi
 have q2:=h.own.free hg (by decide) h.qr
 have q3:=h.own.free hg (by decide) h.qo
 have hb:=h.own.under hg h.hb h.hb.size
 have hgs2:GS w.heap.size V' (V'.setCell ⟨w.heap.size+1+1,1,none⟩ v'):=GS.of_keep hb.size (by omega) q3 (by decide) (by decide) ((Keep.refl [w.heap.size+1+1] V').setCell (by simp) v')
 refine⟨q1.set_other _ (by simp;omega) _,q2.set_other _ (by simp) _,q3.set 1 v',h.nod.go (hgs.trans hgs2) fun b cs hq=>?_,(ho.mono fun j u hu=>hu.gs (hgs.trans hgs2)).set q3 (by decide) 1 v',hb.setCell (p:=⟨w.heap.size+1+1,1,none⟩) (by simp;omega) v'⟩
 have hq2:=h.own.free hg (by decide) hq
 refine hq2.set_other _ (fun e=>?_) _
 have e:b=w.heap.size+1+1:=e
 subst e
 exact absurd (type_one hq2 q3) (by decide)
theorem CgN.nod{w V:World}{gi:Array Value}{v:Value}{k:Nat}(h:CgN w gi V v k)(hk:k≤1048576):NodS w.heap.size V v:=by
 obtain⟨a,c,e,h⟩:=h.own.row
 exact⟨a,k,c,e,hk,h⟩
theorem CgE.edg{w V:World}{gi:Array Value}{x v:Value}{k:Nat}(h:CgE w gi V x v k)(hk:k≤1048576):EdgS w.heap.size V v:=by
 obtain⟨a,c,e,h⟩:=h.own.row
 exact⟨a,k,c,e,hk,h⟩
theorem CgE.box{w V:World}{gi:Array Value}{x v:Value}{k:Nat}(h:CgE w gi V x v k){b:Nat}{cs:Array Value}(hq:Blk V b cs 81)(hB:w.heap.size+1+1<b)(hv:∀g,v.ownBlock=some g→g<b)(i:Nat)(s:Value):CgE w gi (V.setCell ⟨b,i,none⟩ s) x v k:=by
 have hgs:GS w.heap.size V (V.setCell ⟨b,i,none⟩ s):=GS.of_keep h.hb.size (by omega) hq (by decide) (by decide) ((Keep.refl [b] V).setCell (by simp) s)
 refine⟨h.qi.set_other _ (by simp;omega) _,h.qr.set_other _ (by simp;omega) _,h.qo.set_other _ (by simp;omega) _,h.nod.go hgs fun b2 cs2 hq2=>hq2.set_other _ (fun e=>?_) _,?_,h.hb.setCell (p:=⟨b,i,none⟩) (by simp;omega) s⟩
 ·have e:b2=b:=e
  subst e
  exact absurd (type_one hq2 hq) (by decide)
 ·obtain⟨xs,h1,h2⟩:=h.own
  exact⟨xs,own_stay h1 fun g hg=>heap_setCell_other V _ g s (fun e=>by have e:g=b:=e;have:=hv g hg;omega),fun j u hj=>(h2 j u hj).gs hgs⟩
theorem CgE.fin{w V:World}{gi:Array Value}{x v:Value}{k:Nat}(h:CgE w gi V x v k)(hk:k≤1048576):
 Blk ((V.setCell ⟨w.heap.size+1,0,none⟩ x).setCell ⟨w.heap.size+1,1,none⟩ v) (w.heap.size+1) #[x,v] 28∧Below w.heap.size w ((V.setCell ⟨w.heap.size+1,0,none⟩ x).setCell ⟨w.heap.size+1,1,none⟩ v)∧NodS w.heap.size ((V.setCell ⟨w.heap.size+1,0,none⟩ x).setCell ⟨w.heap.size+1,1,none⟩ v) x∧EdgS w.heap.size ((V.setCell ⟨w.heap.size+1,0,none⟩ x).setCell ⟨w.heap.size+1,1,none⟩ v) v:=by
 have hgs:GS w.heap.size V ((V.setCell ⟨w.heap.size+1,0,none⟩ x).setCell ⟨w.heap.size+1,1,none⟩ v):=GS.of_keep h.hb.size (by omega) h.qr (by decide) (by decide) (((Keep.refl [w.heap.size+1] V).setCell (by simp) x).setCell (by simp) v)
 have hst:∀b cs t,t≠28→Blk V b cs t→Blk ((V.setCell ⟨w.heap.size+1,0,none⟩ x).setCell ⟨w.heap.size+1,1,none⟩ v) b cs t:=fun b cs t ht hq=>by
  have hne:b≠w.heap.size+1:=fun e=>by subst e;exact ht (type_one hq h.qr)
  exact(hq.set_other _ (by simpa using hne) _).set_other _ (by simpa using hne) _
 exact⟨(h.qr.set 0 x).set 1 v,(h.hb.setCell (p:=⟨w.heap.size+1,0,none⟩) (by simp) x).setCell (p:=⟨w.heap.size+1,1,none⟩) (by simp) v,h.nod.go hgs fun b cs hq=>hst b cs _ (by decide) hq,(h.edg hk).go hgs fun b cs hq=>hst b cs _ (by decide) hq⟩
theorem KOwn.olds{K:Nat→Value→Prop}{e:TypeId}{size B n:Nat}{w:World}{v:Value}(h:KOwn K e size B w v n):∀g,v.ownBlock=some g→g<w.heap.size:=by
 obtain⟨xs,h1,-⟩:=h
 exact fun g hg=>(h1.lt g hg).2
def CgP(w:World)(e:Ending)(w':World):Prop:=∃x v,e=.returned (.agg #[x,v])∧Below w.heap.size w w'∧NodS w.heap.size w' x∧EdgS w.heap.size w' v
theorem copyGraph_any(w:World)(nv ev:Value)(ln:List NodeD)(le:List EdgeD)(hN:NodesA w 1048576 nv ln)(hE:EdgesG w 1048576 ev le):Calls Tryz.prog 31 #[.agg #[nv,ev]] w (CgP w):=by
 obtain⟨an,cn,rfl,hnn,hna⟩:=node_at hN
 obtain⟨ae,ce,rfl,hne,hea⟩:=edge_at hE
 clear hN hE
 generalize ln.length=nn at *
 generalize le.length=ne at *
 have hni:(nn:Int)≤1048576:=by omega
 have hnj:(ne:Int)≤1048576:=by omega
 obtain⟨W,hW⟩:∃W,((w.alloc (.cells #[.slice an nn cn,.slice ae ne ce] 28)).alloc (.cells #[.slice none 0 0,.slice none 0 0] 28)).alloc (.cells #[.slice none 0 0,.slice none 0 0] 28)=W:=⟨_,rfl⟩
 have h0:Hid (CgN w #[.slice an nn cn,.slice ae ne ce] W (.slice none 0 0) 0):=by
  rw[←hW]
  refine Hd ⟨((Blk.new w _ _).alloc _).alloc _,?_,?_,KOwn.nil _ _ _ _ _,(((Below.refl _ _).alloc (Nat.le_refl _) _).alloc (by rw[World.size_alloc];omega) _).alloc (by rw[World.size_alloc,World.size_alloc];omega) _⟩
  ·have:=(Blk.new (w.alloc (.cells #[.slice an nn cn,.slice ae ne ce] 28)) #[.slice none 0 0,.slice none 0 0] 28).alloc (.cells #[.slice none 0 0,.slice none 0 0] 28)
   rwa [World.size_alloc]at this
  ·have:=Blk.new ((w.alloc (.cells #[.slice an nn cn,.slice ae ne ce] 28)).alloc (.cells #[.slice none 0 0,.slice none 0 0] 28)) #[.slice none 0 0,.slice none 0 0] 28
   rwa [World.size_alloc,World.size_alloc]at this
 replace hna:=Hd hna
 replace hea:=Hd hea
 replace hW:=Hd hW
 go_enter Tryz.func31,Tryz.ntmps31
 go_upto_region 2 with fail
 rw[hW.out]
 go_wp2
 go_loopw [4] (fun i wr=>∃(k:Nat) (v:Value),k≤nn∧i=.int .i64 (k:Int)∧Hid (CgN w #[.slice an nn cn,.slice ae ne ce] wr v k)) (fun i _=>nn-(intOf i).toNat)
 case atStart=>exact⟨0,_,by omega,rfl,h0⟩
 case round =>
  obtain⟨i,v,hi,rfl,hI⟩:=hrel
  obtain⟨u,rfl⟩:∃u:World,u=wr:=⟨_,rfl⟩
  have q0:=hI.out.qi.cell 0 rfl
  by_cases hlt:i<nn
  ·have hii:(i:Int)<(nn:Int):=by omega
   have hBu:=hI.out.hb
   obtain⟨b,off,nid,sa,sn,sc,pa,pn,pc,ll,lp,rfl,hbl,c0,c1,c2,ht,htl,hp⟩:=(hna.out i hlt).stay hBu
   obtain⟨U,hU⟩:∃U,u.alloc (.cells #[.int .i64 nid,.slice sa sn sc,.slice pa pn pc] 76)=U:=⟨_,rfl⟩
   have hal:Below u.heap.size u U:=by rw[←hU];exact(Below.refl _ _).alloc (Nat.le_refl _) _
   have hbx:Blk U u.heap.size #[.int .i64 nid,.slice sa sn sc,.slice pa pn pc] 76:=by rw[←hU];exact Blk.new _ _ _
   have hIU:=hI.out.stay hal
   have ht1:=TextsA.below ht hal
   have hp1:=hp.stay hal
   replace hU:=Hd hU
   replace hbx:=Hd hbx
   replace hIU:=Hd hIU
   replace ht1:=Hd ht1
   replace hp1:=Hd hp1
   have hgv:=hI.out.own.olds
   replace hgv:=Hd hgv
   clear hbl ht hp hal hBu hI
   go_upto_region 6 with fail
   clear c0 c1 c2 q0
   rw[hU.out]
   clear hU
   have hdr:Below U.heap.size U U.drew:=Below_drewN 1 (Below.refl _ _)
   have hI0:=hIU.out.stay hdr
   have hx0:Blk U.drew u.heap.size #[.int .i64 nid,.slice sa sn sc,.slice pa pn pc] 76:=hbx.out
   have cT:=hyp.copyT_any U.drew _ ll (TextsA.below ht1.out hdr) htl
   have cP:=Hd (fun V (hV:Below U.drew.heap.size U.drew V)=>copyProps_any V _ lp ((hp1.out.stay hdr).stay hV))
   replace cT:=Hd cT
   clear hIU hbx ht1 hp1 hdr
   refine wp_region_late [14] (S:=fun V=>Blk V (w.heap.size+1+1) #[v,.slice none 0 0] 28∧Blk V u.heap.size #[.int .i64 nid,.slice sa sn sc,.slice pa pn pc] 76) (by kernel_rfl) ⟨hI0.qo,hx0⟩ (fun hS=>?_)
   generalize U.drew=V0 at *
   refine tlS [0,1] ?_
   iterate 2
    refine tlC ?_ rfl (fun w' hS=>?_) hS ?_
    rotate_left
    ·
     have y0:=hS.1.cell 0 rfl
     go_simp
     try with_reducible rfl
   refine tlS [2,3,4,5,7,8] ?_
   iterate 6
    refine tlC ?_ rfl (fun w' hS=>?_) hS ?_
    rotate_left
    ·
     have y0:=hS.2.cell 0 rfl;have y1:=hS.2.cell 1 rfl;have y2:=hS.2.cell 2 rfl
     go_simp
     try with_reducible rfl
   refine wpAnyL_ready (i:=6) (by kernel_rfl) rfl (fun K hK=>?_)
   clear hS
   go_simp
   refine(cT.out).mono ?_
   rintro e w2 ⟨u1,rfl,hO1⟩
   go_wp2_with fail
   refine hKo hK (⟨(hO1.below.block _ hI0.qo.lt).trans hI0.qo,(hO1.below.block _ hx0.lt).trans hx0⟩) (fun hS=>?_)
   clear hK K
   have hb2:=hO1.below
   have hI2:=hI0.stay hb2
   have hx2:Blk w2 u.heap.size #[.int .i64 nid,.slice sa sn sc,.slice pa pn pc] 76:=(hb2.block _ hx0.lt).trans hx0
   have hl2:LabS w.heap.size w2 u1:=OW.labs hO1 htl hI0.hb.size
   have cP2:=Hd (cP.out w2 hb2)
   clear cP cT hO1 hb2 hI0 hx0
   refine wpAnyL_ready (i:=9) (by kernel_rfl) rfl (fun K hK=>?_)
   clear hS
   go_simp
   refine(cP2.out).mono ?_
   rintro e w3 ⟨u2,rfl,hb3,hp3⟩
   go_wp2_with fail
   refine hKo hK (⟨(hb3.block _ hI2.qo.lt).trans hI2.qo,(hb3.block _ hx2.lt).trans hx2⟩) (fun hS=>?_)
   clear hK K
   have hI3:=hI2.stay hb3
   have hx3:Blk w3 u.heap.size #[.int .i64 nid,.slice sa sn sc,.slice pa pn pc] 76:=(hb3.block _ hx2.lt).trans hx2
   have hl3:=hl2.gs (GS.of_below hI2.hb.size hb3)
   have hp4:=hp3.low hI2.hb.size
   obtain⟨a1,n1,k1,rfl,-⟩:=id hl3
   obtain⟨a2,n2,k2,rfl,-⟩:=id hp4
   clear cP2 hb3 hI2 hx2 hl2 hp3
   refine tlH 10 ?_ rfl (fun w' hS=>?_) hS ?_
   rotate_left
   ·
    skip
    go_simp
    try with_reducible rfl
   refine wpAnyL_ready (i:=11) (by kernel_rfl) rfl (fun K hK=>?_)
   clear hS
   go_simp
   go_wp2_with fail
   have hal:Below w3.heap.size w3 (w3.alloc (.cells #[.int .i64 nid,.slice a1 n1 k1,.slice a2 n2 k2] 76)):=(Below.refl _ _).alloc (Nat.le_refl _) _
   have hq4:=Blk.new w3 #[.int .i64 nid,.slice a1 n1 k1,.slice a2 n2 k2] 76
   have hI4:=hI3.stay hal
   have hx4:Blk (w3.alloc (.cells #[.int .i64 nid,.slice a1 n1 k1,.slice a2 n2 k2] 76)) u.heap.size #[.int .i64 nid,.slice sa sn sc,.slice pa pn pc] 76:=(hal.block _ hx3.lt).trans hx3
   have hl4:=hl3.gs (GS.of_below hI3.hb.size hal)
   have hp5:=hp4.gs (GS.of_below hI3.hb.size hal)
   refine hKo hK ⟨hI4.qo,hx4⟩ (fun hS=>?_)
   clear hK K hI3 hx3 hl3 hp4 hal
   refine wpAnyL_ready (i:=12) (by kernel_rfl) rfl (fun K hK=>?_)
   clear hS
   refine wp_kpush (.tmp 21) (.tmp 31) 25 76 3 56 rfl Tryz.underlying25 infoN3 (by decide) (by decide) w.heap.size i v rfl hI4.own w3.heap.size _ _ rfl hq4 rfl (node_new i hl4 hp5) (by omega) hI4.hb.size (fun v' w' ho hg=>?_)
   have q5:=hI4.own.free hg (by decide) hI4.qo
   have hx5:Blk w' u.heap.size #[.int .i64 nid,.slice sa sn sc,.slice pa pn pc] 76:=(hg.block _ hx4.lt (fun e=>by have:=hgv.out _ e.symm;omega)).trans hx4
   obtain⟨a7,c7,rfl,-⟩:=ho.row
   have hfin:=Hd (hI4.put ho hg)
   refine hKo hK ⟨q5,hx5⟩ (fun hS=>?_)
   clear hK K hI4 hx4 hl4 hp5 ho hg hq4
   refine tlH 13 ?_ rfl (fun w' hS=>?_) hS ?_
   rotate_left
   ·
    skip
    go_simp
    try with_reducible rfl
   refine wpAnyL_late (i:=14) (by kernel_rfl) rfl (by kernel_rfl) (fun K hK=>?_)
   clear hS
   have f0:=q5.free 0
   have x0:=q5.cell 0 rfl
   go_simp
   go_wp2_with fail
   refine hK.out _ _ ?_
   clear hK K f0 x0 q5 hx5
   try simp only[List.getElem_toArray,List.getElem_cons_succ,List.getElem_cons_zero,Act.put,List.setIfInBounds_toArray,List.set_cons_zero,List.set_cons_succ]
   refine wpAnyL_done (by kernel_rfl) ?_ _
   go_wp2
   go_roundw
   case rel=>exact⟨i+1,_,by omega,by go_num,hfin⟩
   case measure=>simp[intOf];omega
  ·have hii:¬(i:Int)<(nn:Int):=by omega
   have hE0:Hid (CgE w #[.slice an nn cn,.slice ae ne ce] u v (.slice none 0 0) 0):=Hd ⟨hI.out.qi,hI.out.qr,hI.out.qo,hI.out.nod (by omega),KOwn.nil _ _ _ _ _,hI.out.hb⟩
   obtain⟨av,cv,rfl,-⟩:=hI.out.own.row
   clear hI
   go_wp2
   clear q0
   go_loopw [6] (fun i2 wr2=>∃(k:Nat) (v2:Value),k≤ne∧i2=.int .i64 (k:Int)∧Hid (CgE w #[.slice an nn cn,.slice ae ne ce] wr2 (.slice av i cv) v2 k)) (fun i2 _=>ne-(intOf i2).toNat)
   case atStart=>exact⟨0,_,by omega,rfl,hE0⟩
   case round=>
    clear hE0
    obtain⟨j,v,hj,rfl,hI⟩:=hrel
    obtain⟨u,rfl⟩:∃u:World,u=wr:=⟨_,rfl⟩
    have q1:=hI.out.qi.cell 1 rfl
    by_cases hlt:j<ne
    ·have hjj:(j:Int)<(ne:Int):=by omega
     have hBu:=hI.out.hb
     obtain⟨b,off,nid,src,dst,ty,pa,pn,pc,lp,rfl,hbl,c0,c1,c2,c3,c4,hp⟩:=(hea.out j hlt).stay hBu
     obtain⟨U,hU⟩:∃U,u.alloc (.cells #[.int .i64 nid,.int .i64 src,.int .i64 dst,.string ty,.slice pa pn pc] 81)=U:=⟨_,rfl⟩
     have hal:Below u.heap.size u U:=by rw[←hU];exact(Below.refl _ _).alloc (Nat.le_refl _) _
     have hbx:Blk U u.heap.size #[.int .i64 nid,.int .i64 src,.int .i64 dst,.string ty,.slice pa pn pc] 81:=by rw[←hU];exact Blk.new _ _ _
     have hIU:=hI.out.stay hal
     have cP:=copyProps_any U _ lp (hp.stay hal)
     have hgv:=hI.out.own.olds
     have hBq:w.heap.size+1+1<u.heap.size:=hI.out.qo.lt
     replace hgv:=Hd hgv
     replace hBq:=Hd hBq
     replace hU:=Hd hU
     replace hbx:=Hd hbx
     replace hIU:=Hd hIU
     replace cP:=Hd cP
     clear hbl hp hal hBu hI
     go_upto_region 11 with fail
     clear c0 c1 c2 c3 c4 q1
     rw[hU.out]
     clear hU
     have z4:=hbx.out.cell 4 rfl
     go_wp2_with fail
     refine cP.out.mono ?_
     rintro e w2 ⟨u2,rfl,hb2,hp2⟩
     obtain⟨a2,n2,k2,rfl,-⟩:=id hp2
     have hbx2:Blk w2 u.heap.size #[.int .i64 nid,.int .i64 src,.int .i64 dst,.string ty,.slice pa pn pc] 81:=(hb2.block _ hbx.out.lt).trans hbx.out
     have hI2:=hIU.out.stay hb2
     have hI3:=Hd (hI2.box hbx2 hBq.out hgv.out 4 (.slice a2 n2 k2))
     have hbx3:Hid (Blk (w2.setCell ⟨u.heap.size,4,none⟩ (.slice a2 n2 k2)) u.heap.size #[.int .i64 nid,.int .i64 src,.int .i64 dst,.string ty,.slice a2 n2 k2] 81):=Hd (hbx2.set 4 _)
     have hp3:Hid (PrpS w.heap.size (w2.setCell ⟨u.heap.size,4,none⟩ (.slice a2 n2 k2)) (.slice a2 n2 k2)):=Hd ((hp2.low hIU.out.hb.size).gs (GS.of_keep hI2.hb.size (by have:=hBq.out;omega) hbx2 (by decide) (by decide) ((Keep.refl [u.heap.size] w2).setCell (by simp) _)))
     have z4:=hbx2.cell 4 rfl
     have f4:=hbx2.free 4
     clear hbx hbx2 hIU hI2 cP hb2 hp2 hgv
     go_upto_region 12 with fail
     clear z4 f4
     generalize w2.setCell ⟨u.heap.size,4,none⟩ (.slice a2 n2 k2)=W3 at *
     have z0:=hbx3.out.cell 0 rfl
     have z1:=hbx3.out.cell 1 rfl
     have z2:=hbx3.out.cell 2 rfl
     have z3:=hbx3.out.cell 3 rfl
     have z4:=hbx3.out.cell 4 rfl
     have q1:=hI3.out.qo.cell 1 rfl
     have hal:Below W3.heap.size W3 (W3.alloc (.cells #[.int .i64 nid,.int .i64 src,.int .i64 dst,.string ty,.slice a2 n2 k2] 81)):=(Below.refl _ _).alloc (Nat.le_refl _) _
     have hq4:=Hd (Blk.new W3 #[.int .i64 nid,.int .i64 src,.int .i64 dst,.string ty,.slice a2 n2 k2] 81)
     have hI4:=Hd (hI3.out.stay hal)
     have hp4:=Hd (hp3.out.gs (GS.of_below hI3.out.hb.size hal))
     clear hal hI3 hp3 hbx3
     go_wp2_with (at_builtin;refine wpList_kpush rfl _ _ 26 81 5 64 rfl Tryz.underlying26 infoE5 (by decide) (by decide) w.heap.size j v rfl hI4.out.own W3.heap.size _ _ rfl hq4.out rfl (edge_new j hp4.out) ?c1 ?c2 ?c3)
     case c1=>omega
     case c2=>exact hI4.out.hb.size
     case c3=>
      intro v' w' ho hg
      obtain⟨a7,c7,rfl,-⟩:=ho.row
      have q5:=hI4.out.own.free hg (by decide) hI4.out.qo
      have hfin:=Hd (hI4.out.put ho hg)
      have x0:=q5.cell 1 rfl
      have f0:=q5.free 1
      clear hI4 hp4 hq4 ho hg q5 z0 z1 z2 z3 z4 q1
      go_wp2
      go_roundw
      case rel=>exact⟨j+1,_,by omega,by go_num,hfin⟩
      case measure=>simp[intOf];omega
    ·have hjj:¬(j:Int)<(ne:Int):=by omega
     obtain⟨a7,c7,rfl,-⟩:=hI.out.own.row
     have hfin:=Hd (hI.out.fin (by omega))
     have x0:=hI.out.qo.cell 0 rfl
     have x1:=hI.out.qo.cell 1 rfl
     have y0:=hI.out.qr.cell 0 rfl
     have y1:=hI.out.qr.cell 1 rfl
     have f0:=hI.out.qr.free
     clear hI
     go_wp2
     refine bodyPost_ret (v:=.agg #[.slice av i cv,.slice a7 j c7]) (results_cell_row rfl _ _ (w.heap.size+1) 28 _ (0,0) _ rfl hfin.out.1.eq Tryz.underlying28 rfl infoG2) rfl ⟨_,_,rfl,hfin.out.2⟩
end Go.Proofs.YtcaeipdgbaligaaGreatDoor.ex
