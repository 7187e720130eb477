/- The reference's Plain: it answers some graph, and nothing that was there turns. -/
import Derived.Test.YtcaeipdgbaligaaGreatDoorXCpG
set_option linter.unusedSimpArgs false
set_option linter.unusedVariables false
set_option maxHeartbeats 16000000
namespace Go.Proofs.YtcaeipdgbaligaaGreatDoor.ex
open Go.ChangeShapes Go.WideShapes Go.ChangeAt Go.RowKit kit dec val tab
open hyp (RowA TextsA textsV textsV_length)
set_option maxRecDepth 100000
theorem mid_at{cs:Array Value}{o:Nat}{vs:Array Value}(ho:o+vs.size≤cs.size)(m:Nat):(cs.toList.take o++vs.toList++cs.toList.drop (o+vs.toList.length)).toArray[m]? = if m<o then cs[m]? else if m<o+vs.size then vs[m-o]? else cs[m]?:=by
 rw[List.getElem?_toArray]
 have hl:(cs.toList.take o).length=o:=by rw[List.length_take,Array.length_toList];omega
 by_cases h1:m<o
 ·rw[if_pos h1,List.append_assoc,List.getElem?_append_left (by omega),List.getElem?_take,if_pos h1,Array.getElem?_toList]
 ·rw[if_neg h1,List.append_assoc,List.getElem?_append_right (by omega),hl]
  by_cases h2:m<o+vs.size
  ·rw[if_pos h2,List.getElem?_append_left (by rw[Array.length_toList];omega),Array.getElem?_toList]
  ·rw[if_neg h2,List.getElem?_append_right (by rw[Array.length_toList];omega),List.getElem?_drop,Array.length_toList,Array.getElem?_toList]
   congr 1
   omega
theorem wp_storeK{w:World}{o:Oper}{a:Act}{K':Act→World→Prop}{Q:Exit→Act→World→Prop}(x y:Operand)(t:TypeId)(ho:o.op=.store t x y)(g off n:Nat)(cs:Array Value)
 (hx:a.eval x=.pointer (some ⟨g,off,none⟩))(hy:a.eval y=.agg cs)(hinf:(Tryz.prog.info? t).map (·.size)=some cs.size){K:Nat→Value→Prop}(hk:∀j u,cs[j]? = some u→K (off+j) u∧u.oneCell'=true)
 (hq:KRow K t w g n)(hoff:off+cs.size≤n)(hK:∀w',KMv K t g w w'→K' (a.put o.dst undef) w'):o.wp Tryz.prog a w K' Q:=by
 obtain⟨cur,h1,h2⟩:=hq
 have hsz:off+cs.size≤cur.size:=by
  rcases Nat.eq_zero_or_pos n with e|hp
  ·omega
  ·obtain⟨v,h3,-⟩:=h2 (n-1) (by omega)
   have:=(Array.getElem?_eq_some_iff.1 h3).1
   omega
 have hone:∀v∈cs.toList,v.oneCell'=true:=fun v hv=>by
  obtain⟨j,hj,rfl⟩:=List.getElem_of_mem hv
  exact(hk j _ (by simp at hj;simp[hj])).2
 have hst:=run_storeCells_at (P:=Tryz.prog) g off t cs.toList 0 cur w h1 (by rw[Array.length_toList];simpa using hsz) hone
 simp only[Nat.add_zero]at hst
 have hrun:(storeVar t ⟨g,off,none⟩ (.agg cs)).run Tryz.prog w=.ok () (w.setRow g (cur.toList.take off++cs.toList++cur.toList.drop (off+cs.toList.length)).toArray):=by
  rw[←hst]
  cases hq:Tryz.prog.info? t with
  |none=>rw[hq]at hinf;cases hinf
  |some i0=>
   rw[hq]at hinf
   have hs:i0.size=cs.size:=by simpa using hinf
   simp[storeVar,sizeOf,typeInfo,hq,Value.cells,hs]
 have hfin:=hK (w.setRow g (cur.toList.take off++cs.toList++cur.toList.drop (off+cs.toList.length)).toArray) ⟨(Keep.refl [g] w).setRow (by simp) _,fun m hm=>?_⟩
 ·unfold Oper.wp execOp
  simp only[ho,hx,hy,Instr.storeAt,Instr.sureAddr,Sem.run_bind,Sem.run_pure,Result.andThen_ok,hrun]
  exact hfin
 ·obtain⟨cur2,h3,h4⟩:=hm
  have e:cur2=cur:=by
   have:=h3.eq.symm.trans h1.eq
   injection this with this
   injection this
  subst e
  refine⟨_,h1.setRow,fun j hj=>?_⟩
  rw[mid_at hsz]
  by_cases l1:j<off
  ·rw[if_pos l1];exact h4 j hj
  ·rw[if_neg l1]
   by_cases l2:j<off+cs.size
   ·rw[if_pos l2]
    have hlt:j-off<cs.size:=by omega
    have:=(hk (j-off) _ (Array.getElem?_eq_getElem hlt)).1
    rw[show off+(j-off)=j by omega]at this
    exact⟨_,Array.getElem?_eq_getElem hlt,this⟩
   ·rw[if_neg l2];exact h4 j hj
theorem wpList_storeK{w:World}{ops:Array Oper}{rest:List Oper}{o:Oper}{a:Act}{Q:Exit→Act→World→Prop}(hgd:o.guard=none)(x y:Operand)(t:TypeId)(ho:o.op=.store t x y)(g off n:Nat)(cs:Array Value)
 (hx:a.eval x=.pointer (some ⟨g,off,none⟩))(hy:a.eval y=.agg cs)(hinf:(Tryz.prog.info? t).map (·.size)=some cs.size){K:Nat→Value→Prop}(hk:∀j u,cs[j]? = some u→K (off+j) u∧u.oneCell'=true)
 (hq:KRow K t w g n)(hoff:off+cs.size≤n)(hK:∀w',KMv K t g w w'→wpList Tryz.prog ops Q rest (a.put o.dst undef) w'):wpList Tryz.prog ops Q (o::rest) a w:=
 wpList_plain hgd fun _ hK'=>wp_storeK x y t ho g off n cs hx hy hinf hk hq hoff fun w' h=>hK' _ _ (hK w' h)
theorem infoN1:(Tryz.prog.info? 76).map (·.size)=some 3:=by kernel_rfl
theorem infoE1:(Tryz.prog.info? 81).map (·.size)=some 5:=by kernel_rfl
structure PI(C r o:Nat)(W:World)(x v:Value)(V:World):Prop where
 qr:Blk V r #[.slice none 0 0,.slice none 0 0] 28
 qo:Blk V o #[x,v] 28
 nod:NodS C V x
 edg:EdgS C V v
 hb:Below C W V
theorem PI.go{C r o:Nat}{W V V':World}{x v:Value}(h:PI C r o W x v V)(hg:GO C V V'):PI C r o W x v V':=
 ⟨hg.oth _ _ _ (by decide) (by decide) h.qr,hg.oth _ _ _ (by decide) (by decide) h.qo,h.nod.go hg.gs fun b cs hq=>hg.oth _ _ _ (by decide) (by decide) hq,h.edg.go hg.gs fun b cs hq=>hg.oth _ _ _ (by decide) (by decide) hq,h.hb.trans hg.gs.below⟩
theorem PI.stay{C r o:Nat}{W V V':World}{x v:Value}(h:PI C r o W x v V)(hC:C≤V.heap.size)(hb:Below V.heap.size V V'):PI C r o W x v V':=
 ⟨(hb.block _ h.qr.lt).trans h.qr,(hb.block _ h.qo.lt).trans h.qo,h.nod.go (GS.of_below hC hb) fun b cs hq=>(hb.block _ hq.lt).trans hq,h.edg.go (GS.of_below hC hb) fun b cs hq=>(hb.block _ hq.lt).trans hq,h.hb.trans (hb.mono hC)⟩
theorem PI.node{C r o g:Nat}{W V V':World}{x v:Value}(h:PI C r o W x v V)(hC:C≤V.heap.size)(hg:C≤g)(hq:∃cs,Blk V g cs 76)(hm:KMv (NodeK C V) 76 g V V'):PI C r o W x v V':=by
 obtain⟨cs,hq⟩:=hq
 have hgs:GS C V V':=GS.of_keep hC hg hq (by decide) (by decide) hm.keep
 have hst:∀b cs t,t≠76→Blk V b cs t→Blk V' b cs t:=fun b cs t ht hb=>hb.keep hm.keep (fun e=>by
  obtain rfl:b=g:=by simpa using e
  exact ht (type_one hb hq))
 refine⟨hst _ _ _ (by decide) h.qr,hst _ _ _ (by decide) h.qo,?_,h.edg.go hgs fun b cs hq=>hst _ _ _ (by decide) hq,h.hb.trans hgs.below⟩
 obtain⟨a,n,c,e,hn,h0⟩:=h.nod
 refine⟨a,n,c,e,hn,fun hp=>?_⟩
 obtain⟨g2,e1,e2,e3⟩:=h0 hp
 refine⟨g2,e1,e2,KRow.mono (K:=NodeK C V) ?_ fun j u hu=>hu.gs hgs⟩
 by_cases e4:g2=g
 ·subst e4;exact hm.kinds _ e3
 ·exact e3.keep hm.keep (by simpa using e4)
theorem PI.edge{C r o g:Nat}{W V V':World}{x v:Value}(h:PI C r o W x v V)(hC:C≤V.heap.size)(hg:C≤g)(hq:∃cs,Blk V g cs 81)(hm:KMv (EdgeK C V) 81 g V V'):PI C r o W x v V':=by
 obtain⟨cs,hq⟩:=hq
 have hgs:GS C V V':=GS.of_keep hC hg hq (by decide) (by decide) hm.keep
 have hst:∀b cs t,t≠81→Blk V b cs t→Blk V' b cs t:=fun b cs t ht hb=>hb.keep hm.keep (fun e=>by
  obtain rfl:b=g:=by simpa using e
  exact ht (type_one hb hq))
 refine⟨hst _ _ _ (by decide) h.qr,hst _ _ _ (by decide) h.qo,h.nod.go hgs fun b cs hq=>hst _ _ _ (by decide) hq,?_,h.hb.trans hgs.below⟩
 obtain⟨a,n,c,e,hn,h0⟩:=h.edg
 refine⟨a,n,c,e,hn,fun hp=>?_⟩
 obtain⟨g2,e1,e2,e3⟩:=h0 hp
 refine⟨g2,e1,e2,KRow.mono (K:=EdgeK C V) ?_ fun j u hu=>hu.gs hgs⟩
 by_cases e4:g2=g
 ·subst e4;exact hm.kinds _ e3
 ·exact e3.keep hm.keep (by simpa using e4)
theorem PI.krow{C r o g n c:Nat}{W V:World}{v:Value}(h:PI C r o W (.slice (some ⟨g,0,none⟩) n c) v V)(hp:0<n):C≤g∧KRow (NodeK C V) 76 V g (n * 3):=by
 obtain⟨a,n1,c1,e,hn,h0⟩:=h.nod
 injection e with e1 e2 e3
 subst e1 e2 e3
 obtain⟨g2,e1,e2,e3⟩:=h0 hp
 cases e1
 exact⟨e2,e3⟩
theorem PI.krowE{C r o g n c:Nat}{W V:World}{x:Value}(h:PI C r o W x (.slice (some ⟨g,0,none⟩) n c) V)(hp:0<n):C≤g∧KRow (EdgeK C V) 81 V g (n * 5):=by
 obtain⟨a,n1,c1,e,hn,h0⟩:=h.edg
 injection e with e1 e2 e3
 subst e1 e2 e3
 obtain⟨g2,e1,e2,e3⟩:=h0 hp
 cases e1
 exact⟨e2,e3⟩
theorem KRow.blk{K:Nat→Value→Prop}{t:TypeId}{w:World}{b m:Nat}(h:KRow K t w b m):∃cs,Blk w b cs t:=by
 obtain⟨cs,hq,-⟩:=h
 exact⟨cs,hq⟩
theorem pgt : PgT := by
 intro w nv ev ln le hN hE
 obtain⟨an,cn,rfl,hnn,-⟩:=node_at hN
 obtain⟨ae,ce,rfl,hne,-⟩:=edge_at hE
 obtain⟨W,hW⟩:∃W,(w.alloc (.cells #[.slice an ln.length cn,.slice ae le.length ce] 28)).alloc (.cells #[.slice none 0 0,.slice none 0 0] 28)=W:=⟨_,rfl⟩
 have hal:Below w.heap.size w W:=by rw[←hW];exact((Below.refl _ _).alloc (Nat.le_refl _) _).alloc (by rw[World.size_alloc];omega) _
 have hqi:Blk W w.heap.size #[.slice an ln.length cn,.slice ae le.length ce] 28:=by rw[←hW];exact(Blk.new w _ _).alloc _
 have hqr:Blk W (w.heap.size+1) #[.slice none 0 0,.slice none 0 0] 28:=by
  rw[←hW]
  have:=Blk.new (w.alloc (.cells #[.slice an ln.length cn,.slice ae le.length ce] 28)) #[.slice none 0 0,.slice none 0 0] 28
  rwa [World.size_alloc]at this
 have cC:=Hd (copyGraph_any W _ _ ln le (hN.stay hal) (hE.stay hal))
 have q0:=hqi.cell 0 rfl
 have q1:=hqi.cell 1 rfl
 have hCw:w.heap.size≤W.heap.size:=hal.size
 replace hW:=Hd hW
 replace hqr:=Hd hqr
 replace hal:=Hd hal
 replace hCw:=Hd hCw
 clear hN hE hnn hne hqi
 go_enter Tryz.func18,Tryz.ntmps18
 go_upto_region 1 with fail
 rw[hW.out]
 go_wp2_with fail
 refine cC.out.mono ?_
 rintro e w2 ⟨x,v,rfl,hb2,hx,hv⟩
 obtain⟨ax,nx,cx,rfl,hnx,hgx⟩:=id hx
 obtain⟨av,nv,cv,rfl,hnv,hgv⟩:=id hv
 replace hgx:Hid (0<nx→∃g,ax=some ⟨g,0,none⟩):=Hd fun h=>by obtain⟨g,h,-⟩:=hgx h;exact⟨g,h⟩
 replace hgv:Hid (0<nv→∃g,av=some ⟨g,0,none⟩):=Hd fun h=>by obtain⟨g,h,-⟩:=hgv h;exact⟨g,h⟩
 have hni:(nx:Int)≤1048576:=by omega
 have hnj:(nv:Int)≤1048576:=by omega
 obtain⟨U,hU⟩:∃U,w2.alloc (.cells #[.slice ax nx cx,.slice av nv cv] 28)=U:=⟨_,rfl⟩
 have hal2:Below w2.heap.size w2 U:=by rw[←hU];exact(Below.refl _ _).alloc (Nat.le_refl _) _
 have h0:Hid (PI W.heap.size (w.heap.size+1) w2.heap.size W (.slice ax nx cx) (.slice av nv cv) U):=by
  refine Hd ⟨?_,by rw[←hU];exact Blk.new _ _ _,NodS.below hx hb2.size hal2,hv.go (GS.of_below hb2.size hal2) fun b cs hq=>(hal2.block _ hq.lt).trans hq,hb2.trans (hal2.mono hb2.size)⟩
  have:=(hb2.block _ hqr.out.lt).trans hqr.out
  exact(hal2.block _ (Blk.lt (cs:=#[.slice none 0 0,.slice none 0 0]) (t:=28) this)).trans this
 replace hU:=Hd hU
 clear hb2 hx hv hal2 cC hW hqr
 go_upto_region 2 with fail
 rw[hU.out]
 clear hU q0 q1
 go_wp2
 go_loopw [4] (fun i wr=>∃k:Nat,k≤nx∧i=.int .i64 (k:Int)∧Hid (PI W.heap.size (w.heap.size+1) w2.heap.size W (.slice ax nx cx) (.slice av nv cv) wr)) (fun i _=>nx-(intOf i).toNat)
 case atStart=>exact⟨0,by omega,rfl,h0⟩
 case round =>
  clear h0
  obtain⟨i,hi,rfl,hI⟩:=hrel
  obtain⟨u,rfl⟩:∃u:World,u=wr:=⟨_,rfl⟩
  by_cases hlt:i<nx
  ·have hii : (i : Int) < (nx : Int) := by omega
   have hpos:0<nx:=by omega
   obtain⟨g,hgg⟩:=hgx.out hpos
   subst hgg
   obtain⟨hCg,hKu⟩:=hI.out.krow hpos
   obtain⟨d,lv,pv,z0,z1,z2,hl,hp⟩:=node_cells hKu i hlt
   obtain⟨la,ll,lc,rfl,-⟩:=id hl
   have cT:=Hd (sortTexts_gs W.heap.size u _ hI.out.hb.size hl)
   have q0:=hI.out.qo.cell 0 rfl
   clear hKu hl hp z0 z2
   go_upto_region 5 with fail
   go_wp2_with fail
   refine cT.out.mono ?_
   rintro e w3 ⟨rfl,hgo⟩
   have hI3:=Hd (hI.out.go hgo)
   clear cT hgo hI q0 z1
   obtain⟨-,hKu⟩:=hI3.out.krow hpos
   obtain⟨d2,lv2,pv2,z0,z1,z2,hl,hp⟩:=node_cells hKu i hlt
   obtain⟨pa,pl,pc,rfl,-⟩:=id hp
   have cQ:=Hd (sortProps_gs W.heap.size w3 _ hI3.out.hb.size hp)
   have q0:=hI3.out.qo.cell 0 rfl
   clear hKu hl hp z0 z1
   go_wp2_with fail
   refine cQ.out.mono ?_
   rintro e w4 ⟨rfl,hgo⟩
   have hI4:=Hd (hI3.out.go hgo)
   clear cQ hgo hI3 q0 z2 pv lv2
   go_wp2
   go_loopw [5] (fun v wr2=>∃k:Nat,k≤i∧v=.int .i64 (k:Int)∧Hid (PI W.heap.size (w.heap.size+1) w2.heap.size W (.slice (some ⟨g,0,none⟩) nx cx) (.slice av nv cv) wr2)) (fun v _=>(intOf v).toNat)
   case atStart=>exact⟨i,by omega,rfl,hI4⟩
   case round =>
    clear hI4
    obtain⟨k,hki,rfl,hk2⟩:=hrel
    obtain⟨u,rfl⟩:∃u:World,u=wr:=⟨_,rfl⟩
    go_upto_region 8 with fail
    go_cut [51] from 34 to 74 (fun c wx=>∃q,c=.bool q∧(q=true→0<k)∧Hid (PI W.heap.size (w.heap.size+1) w2.heap.size W (.slice (some ⟨g,0,none⟩) nx cx) (.slice av nv cv) wx))
    case first=>
     have hkd:Hid (PI W.heap.size (w.heap.size+1) w2.heap.size W (.slice (some ⟨g,0,none⟩) nx cx) (.slice av nv cv) u.drew):=Hd (hk2.out.stay hk2.out.hb.size (Below_drewN 1 (Below.refl _ _)))
     rcases k with _|k
     ·refine wp_region_held_drew (S:=fun V=>True) (by kernel_rfl) trivial (fun hS=>?_)
      generalize u.drew=V0 at *
      refine tkS [0,1,2] ?_
      iterate 3
       refine tkC ?_ rfl (fun w' hS=>?_) hS ?_
       rotate_left
       ·
        skip
        go_simp
        try with_reducible rfl
      refine wpAnyH_take (i:=3) (v:=undef) rfl (by kernel_rfl) (by kernel_rfl) (by kernel_rfl) (fun _ _ _ h=>h) (.inr ⟨by kernel_rfl,rfl⟩) hS ?_
      simp only[List.getElem_toArray,List.getElem_cons_succ,List.getElem_cons_zero,Act.put,List.setIfInBounds_toArray,List.set_cons_zero,List.set_cons_succ]
      refine wpAnyH_take (i:=4) (v:=undef) rfl (by kernel_rfl) (by kernel_rfl) (by kernel_rfl) (fun _ _ _ h=>h) (.inr ⟨by kernel_rfl,rfl⟩) hS ?_
      simp only[List.getElem_toArray,List.getElem_cons_succ,List.getElem_cons_zero,Act.put,List.setIfInBounds_toArray,List.set_cons_zero,List.set_cons_succ]
      refine wpAnyH_take (i:=5) (v:=undef) rfl (by kernel_rfl) (by kernel_rfl) (by kernel_rfl) (fun _ _ _ h=>h) (.inr ⟨by kernel_rfl,rfl⟩) hS ?_
      simp only[List.getElem_toArray,List.getElem_cons_succ,List.getElem_cons_zero,Act.put,List.setIfInBounds_toArray,List.set_cons_zero,List.set_cons_succ]
      refine wpAnyH_take (i:=6) (v:=undef) rfl (by kernel_rfl) (by kernel_rfl) (by kernel_rfl) (fun _ _ _ h=>h) (.inr ⟨by kernel_rfl,rfl⟩) hS ?_
      simp only[List.getElem_toArray,List.getElem_cons_succ,List.getElem_cons_zero,Act.put,List.setIfInBounds_toArray,List.set_cons_zero,List.set_cons_succ]
      refine wpAnyH_take (i:=7) (v:=undef) rfl (by kernel_rfl) (by kernel_rfl) (by kernel_rfl) (fun _ _ _ h=>h) (.inr ⟨by kernel_rfl,rfl⟩) hS ?_
      simp only[List.getElem_toArray,List.getElem_cons_succ,List.getElem_cons_zero,Act.put,List.setIfInBounds_toArray,List.set_cons_zero,List.set_cons_succ]
      refine wpAnyH_take (i:=8) (v:=undef) rfl (by kernel_rfl) (by kernel_rfl) (by kernel_rfl) (fun _ _ _ h=>h) (.inr ⟨by kernel_rfl,rfl⟩) hS ?_
      simp only[List.getElem_toArray,List.getElem_cons_succ,List.getElem_cons_zero,Act.put,List.setIfInBounds_toArray,List.set_cons_zero,List.set_cons_succ]
      refine wpAnyH_take (i:=9) (v:=undef) rfl (by kernel_rfl) (by kernel_rfl) (by kernel_rfl) (fun _ _ _ h=>h) (.inr ⟨by kernel_rfl,rfl⟩) hS ?_
      simp only[List.getElem_toArray,List.getElem_cons_succ,List.getElem_cons_zero,Act.put,List.setIfInBounds_toArray,List.set_cons_zero,List.set_cons_succ]
      refine wpAnyH_take (i:=10) (v:=undef) rfl (by kernel_rfl) (by kernel_rfl) (by kernel_rfl) (fun _ _ _ h=>h) (.inr ⟨by kernel_rfl,rfl⟩) hS ?_
      simp only[List.getElem_toArray,List.getElem_cons_succ,List.getElem_cons_zero,Act.put,List.setIfInBounds_toArray,List.set_cons_zero,List.set_cons_succ]
      refine wpAnyH_take (i:=11) (v:=undef) rfl (by kernel_rfl) (by kernel_rfl) (by kernel_rfl) (fun _ _ _ h=>h) (.inr ⟨by kernel_rfl,rfl⟩) hS ?_
      simp only[List.getElem_toArray,List.getElem_cons_succ,List.getElem_cons_zero,Act.put,List.setIfInBounds_toArray,List.set_cons_zero,List.set_cons_succ]
      refine wpAnyH_take (i:=12) (v:=undef) rfl (by kernel_rfl) (by kernel_rfl) (by kernel_rfl) (fun _ _ _ h=>h) (.inr ⟨by kernel_rfl,rfl⟩) hS ?_
      simp only[List.getElem_toArray,List.getElem_cons_succ,List.getElem_cons_zero,Act.put,List.setIfInBounds_toArray,List.set_cons_zero,List.set_cons_succ]
      refine wpAnyH_take (i:=13) (v:=undef) rfl (by kernel_rfl) (by kernel_rfl) (by kernel_rfl) (fun _ _ _ h=>h) (.inr ⟨by kernel_rfl,rfl⟩) hS ?_
      simp only[List.getElem_toArray,List.getElem_cons_succ,List.getElem_cons_zero,Act.put,List.setIfInBounds_toArray,List.set_cons_zero,List.set_cons_succ]
      refine wpAnyH_take (i:=14) (v:=undef) rfl (by kernel_rfl) (by kernel_rfl) (by kernel_rfl) (fun _ _ _ h=>h) (.inr ⟨by kernel_rfl,rfl⟩) hS ?_
      simp only[List.getElem_toArray,List.getElem_cons_succ,List.getElem_cons_zero,Act.put,List.setIfInBounds_toArray,List.set_cons_zero,List.set_cons_succ]
      refine wpAnyH_take (i:=15) (v:=undef) rfl (by kernel_rfl) (by kernel_rfl) (by kernel_rfl) (fun _ _ _ h=>h) (.inr ⟨by kernel_rfl,rfl⟩) hS ?_
      simp only[List.getElem_toArray,List.getElem_cons_succ,List.getElem_cons_zero,Act.put,List.setIfInBounds_toArray,List.set_cons_zero,List.set_cons_succ]
      refine wpAnyH_take (i:=16) (v:=undef) rfl (by kernel_rfl) (by kernel_rfl) (by kernel_rfl) (fun _ _ _ h=>h) (.inr ⟨by kernel_rfl,rfl⟩) hS ?_
      simp only[List.getElem_toArray,List.getElem_cons_succ,List.getElem_cons_zero,Act.put,List.setIfInBounds_toArray,List.set_cons_zero,List.set_cons_succ]
      refine tkH 17 ?_ rfl (fun w' hS=>?_) hS ?_
      rotate_left
      ·
       skip
       go_simp
       try with_reducible rfl
      refine wpAnyH_done (by kernel_rfl) ?_ _
      clear hS
      go_wp2
      go_meet
      exact⟨_,rfl,fun h=>(by simp at h),hkd⟩
     ·obtain⟨hCg2,hKd⟩:=hkd.out.krow hpos
      obtain⟨d0,_,_,z0,-⟩:=node_cells hKd (k+1) (by omega)
      obtain⟨d1,_,_,z1,-⟩:=node_cells hKd k (by omega)
      have hkn:((k:Int)+1)<(nx:Int):=by omega
      have hkn2:(k:Int)<(nx:Int):=by omega
      have h01:(0:Int)≤(k:Int)+1:=by omega
      have h00:(0:Int)≤(k:Int):=by omega
      have hwk:IntKind.i64.wrap (k:Int)=(k:Int):=IntWalk.i64_in _ (by omega)
      have hqo:=hkd.out.qo
      clear hKd
      refine wp_region_held_drew (S:=fun V=>Blk V w2.heap.size #[.slice (some ⟨g,0,none⟩) nx cx,.slice av nv cv] 28∧V.cell? ⟨g,(k+1) * 3,none⟩=some (.int .i64 d0)∧V.cell? ⟨g,k * 3,none⟩=some (.int .i64 d1)) (by kernel_rfl) ⟨hqo,z0,z1⟩ (fun hS=>?_)
      generalize u.drew=V0 at *
      clear z0 z1 hqo
      refine tkS [0,1,2,3,4,5,6,7,8,9,10,11,12,13,14,15,16,17] ?_
      iterate 18
       refine tkC ?_ rfl (fun w' hS=>?_) hS ?_
       rotate_left
       ·
        have y0:=hS.1.cell 0 rfl;have y1:=hS.2.1;have y2:=hS.2.2
        go_simp
        try with_reducible rfl
      refine wpAnyH_done (by kernel_rfl) ?_ _
      clear hS
      go_wp2
      go_meet
      exact⟨_,rfl,fun _=>Nat.succ_pos k,hkd⟩
    case rest=>
     obtain⟨q,rfl,hq,hk3⟩:=hcut
     clear hk2
     cases q
     ·clear hq
      go_wp2
      go_roundw
      case rel=>exact⟨i+1,by omega,by go_num,hk3⟩
      case measure=>simp[intOf];omega
     ·have hk0:=hq rfl
      clear hq
      obtain⟨k,rfl⟩:∃k',k=k'+1:=⟨k-1,by omega⟩
      have hkn:((k:Int)+1)<(nx:Int):=by omega
      have hkn2:(k:Int)<(nx:Int):=by omega
      have h01:(0:Int)≤(k:Int)+1:=by omega
      have h00:(0:Int)≤(k:Int):=by omega
      have hwk:IntKind.i64.wrap (k:Int)=(k:Int):=IntWalk.i64_in _ (by omega)
      obtain⟨-,hKc⟩:=hk3.out.krow hpos
      obtain⟨d,lv,pv,z0,z1,z2,hl,hp⟩:=node_cells hKc (k+1) (by omega)
      obtain⟨la2,ll2,lc2,rfl,-⟩:=id hl
      obtain⟨pa2,pl2,pc2,rfl,-⟩:=id hp
      have q0:=hk3.out.qo.cell 0 rfl
      have hCc:=hk3.out.hb.size
      obtain⟨U,hU⟩:∃U,wc.alloc (.cells #[.int .i64 d,.slice la2 ll2 lc2,.slice pa2 pl2 pc2] 76)=U:=⟨_,rfl⟩
      have hal2:Below wc.heap.size wc U:=by rw[←hU];exact(Below.refl _ _).alloc (Nat.le_refl _) _
      have hbx:Blk U wc.heap.size #[.int .i64 d,.slice la2 ll2 lc2,.slice pa2 pl2 pc2] 76:=by rw[←hU];exact Blk.new _ _ _
      have hIU:=hk3.out.stay hCc hal2
      have hlU:=hl.gs (GS.of_below hCc hal2)
      have hpU:=hp.gs (GS.of_below hCc hal2)
      have hgw:g<wc.heap.size:=hKc.lt
      replace hU:=Hd hU
      replace hbx:=Hd hbx
      replace hIU:=Hd hIU
      replace hlU:=Hd hlU
      replace hpU:=Hd hpU
      replace hgw:=Hd hgw
      clear hl hp hKc hal2 hk3 hCc
      go_upto_region 11 with fail
      rw[hU.out]
      clear z0 z1 z2 q0 hU
      have hdr:Below U.heap.size U U.drew:=Below_drewN 1 (Below.refl _ _)
      have hI0:Hid (PI W.heap.size (w.heap.size+1) w2.heap.size W (.slice (some ⟨g,0,none⟩) nx cx) (.slice av nv cv) U.drew):=Hd (hIU.out.stay hIU.out.hb.size hdr)
      have hx0:Hid (Blk U.drew wc.heap.size #[.int .i64 d,.slice la2 ll2 lc2,.slice pa2 pl2 pc2] 76):=hbx
      have hl0:Hid (LabS W.heap.size U.drew (.slice la2 ll2 lc2)):=Hd (hlU.out.gs (GS.of_below hIU.out.hb.size hdr))
      have hp0:Hid (PrpS W.heap.size U.drew (.slice pa2 pl2 pc2)):=Hd (hpU.out.gs (GS.of_below hIU.out.hb.size hdr))
      obtain⟨-,hK0⟩:=hI0.out.krow hpos
      obtain⟨d2,lv3,pv3,z0,z1,z2,hl2,hp2⟩:=node_cells hK0 k (by omega)
      obtain⟨la3,ll3,lc3,rfl,-⟩:=id hl2
      obtain⟨pa3,pl3,pc3,rfl,-⟩:=id hp2
      have hqo:=hI0.out.qo
      clear hIU hbx hlU hpU hdr
      refine wp_region_late [10] (S:=fun V=>Blk V w2.heap.size #[.slice (some ⟨g,0,none⟩) nx cx,.slice av nv cv] 28∧V.cell? ⟨g,k * 3,none⟩=some (.int .i64 d2)∧V.cell? ⟨g,k * 3+1,none⟩=some (.slice la3 ll3 lc3)∧V.cell? ⟨g,k * 3+2,none⟩=some (.slice pa3 pl3 pc3)) (by kernel_rfl) ⟨hqo,z0,z1,z2⟩ (fun hS=>?_)
      generalize U.drew=V0 at *
      clear z0 z1 z2 hqo
      refine tlS [0,1,2,3,4,5,6,7,8,9] ?_
      iterate 10
       refine tlC ?_ rfl (fun w' hS=>?_) hS ?_
       rotate_left
       ·
        have y0:=hS.1.cell 0 rfl;have y1:=hS.2.1;have y2:=hS.2.2.1;have y3:=hS.2.2.2
        go_simp
        try with_reducible rfl
      refine wpAnyL_late (i:=10) (by kernel_rfl) rfl (by kernel_rfl) (fun K hK=>?_)
      clear hS
      refine wp_storeK (.tmp 68) (.tmp 67) 76 rfl g ((k+1) * 3) (nx * 3) #[.int .i64 d2,.slice la3 ll3 lc3,.slice pa3 pl3 pc3] rfl rfl infoN1 (node_new (k+1) hl2 hp2) hK0 (by show _+3≤_;omega) (fun w5 hm=>?_)
      have hgs5:GS W.heap.size V0 w5:=by
       obtain⟨cs,hq⟩:=hK0.blk
       exact GS.of_keep hI0.out.hb.size hCg hq (by decide) (by decide) hm.keep
      have hI5:=Hd (hI0.out.node hI0.out.hb.size hCg hK0.blk hm)
      have hx5:=Hd (hx0.out.keep hm.keep (by have:=hgw.out;simp;omega))
      have hl5:=Hd (hl0.out.gs hgs5)
      have hp5:=Hd (hp0.out.gs hgs5)
      refine hK.out _ _ ?_
      clear hK K hI0 hx0 hl0 hp0 hK0 hl2 hp2 hm hgs5
      try simp only[List.getElem_toArray,List.getElem_cons_succ,List.getElem_cons_zero,Act.put,List.setIfInBounds_toArray,List.set_cons_zero,List.set_cons_succ]
      refine wpAnyL_done (by kernel_rfl) ?_ _
      have z0:=hx5.out.cell 0 rfl
      have z1:=hx5.out.cell 1 rfl
      have z2:=hx5.out.cell 2 rfl
      have q0:=hI5.out.qo.cell 0 rfl
      obtain⟨-,hK5⟩:=hI5.out.krow hpos
      replace hK5:=Hd hK5
      clear hx5
      go_wp2_with (refine wpList_storeK rfl _ _ 76 rfl g (k * 3) (nx * 3) #[.int .i64 d,.slice la2 ll2 lc2,.slice pa2 pl2 pc2] rfl rfl infoN1 (node_new k hl5.out hp5.out) hK5.out ?c1 ?c2)
      case c1=>show _+3≤_;omega
      case c2=>
       intro w6 hm
       have hI6:=Hd (hI5.out.node hI5.out.hb.size hCg hK5.out.blk hm)
       clear hI5 hK5 hl5 hp5 hm z0 z1 z2 q0
       go_wp2
       go_roundw
       case rel=>exact⟨k,by omega,by go_num,hI6⟩
       case measure=>simp[intOf]
  ·have hii : ¬ (i : Int) < (nx : Int) := by omega
   have q0:=hI.out.qo.cell 0 rfl
   go_wp2
   clear q0
   go_loopw [7] (fun j wr=>∃k:Nat,k≤nv∧j=.int .i64 (k:Int)∧Hid (PI W.heap.size (w.heap.size+1) w2.heap.size W (.slice ax nx cx) (.slice av nv cv) wr)) (fun j _=>nv-(intOf j).toNat)
   case atStart=>exact⟨0,by omega,rfl,hI⟩
   case round =>
    clear hI hii
    obtain⟨i,hi,rfl,hI⟩:=hrel
    obtain⟨u,rfl⟩:∃u:World,u=wr:=⟨_,rfl⟩
    by_cases hlt:i<nv
    ·have hii : (i : Int) < (nv : Int) := by omega
     have hpos:0<nv:=by omega
     obtain⟨g,hgg⟩:=hgv.out hpos
     subst hgg
     obtain⟨hCg,hKu⟩:=hI.out.krowE hpos
     obtain⟨d,d3,d4,s4,pv,z0,z1,z2,z3,z4,hp⟩:=edge_cells hKu i hlt
     obtain⟨pa,pl,pc,rfl,-⟩:=id hp
     have cQ:=Hd (sortProps_gs W.heap.size u _ hI.out.hb.size hp)
     have q0:=hI.out.qo.cell 1 rfl
     clear hKu hp z0 z1 z2 z3
     go_upto_region 16 with fail
     go_wp2_with fail
     refine cQ.out.mono ?_
     rintro e w4 ⟨rfl,hgo⟩
     have hI4:=Hd (hI.out.go hgo)
     clear cQ hgo hI q0 z4 d d3 d4 s4
     go_wp2
     go_loopw [8] (fun r wr2=>∃k:Nat,k≤i∧r=.int .i64 (k:Int)∧Hid (PI W.heap.size (w.heap.size+1) w2.heap.size W (.slice ax nx cx) (.slice (some ⟨g,0,none⟩) nv cv) wr2)) (fun r _=>(intOf r).toNat)
     case atStart=>exact⟨i,by omega,rfl,hI4⟩
     case round =>
      clear hI4
      obtain⟨k,hki,rfl,hk2⟩:=hrel
      obtain⟨u,rfl⟩:∃u:World,u=wr:=⟨_,rfl⟩
      go_upto_region 18 with fail
      go_cut [107] from 90 to 130 (fun c wx=>∃q,c=.bool q∧(q=true→0<k)∧Hid (PI W.heap.size (w.heap.size+1) w2.heap.size W (.slice ax nx cx) (.slice (some ⟨g,0,none⟩) nv cv) wx))
      case first=>
       have hkd:Hid (PI W.heap.size (w.heap.size+1) w2.heap.size W (.slice ax nx cx) (.slice (some ⟨g,0,none⟩) nv cv) u.drew):=Hd (hk2.out.stay hk2.out.hb.size (Below_drewN 1 (Below.refl _ _)))
       rcases k with _|k
       ·refine wp_region_held_drew (S:=fun V=>True) (by kernel_rfl) trivial (fun hS=>?_)
        generalize u.drew=V0 at *
        refine tkS [0,1,2] ?_
        iterate 3
         refine tkC ?_ rfl (fun w' hS=>?_) hS ?_
         rotate_left
         ·
          skip
          go_simp
          try with_reducible rfl
        refine wpAnyH_take (i:=3) (v:=undef) rfl (by kernel_rfl) (by kernel_rfl) (by kernel_rfl) (fun _ _ _ h=>h) (.inr ⟨by kernel_rfl,rfl⟩) hS ?_
        simp only[List.getElem_toArray,List.getElem_cons_succ,List.getElem_cons_zero,Act.put,List.setIfInBounds_toArray,List.set_cons_zero,List.set_cons_succ]
        refine wpAnyH_take (i:=4) (v:=undef) rfl (by kernel_rfl) (by kernel_rfl) (by kernel_rfl) (fun _ _ _ h=>h) (.inr ⟨by kernel_rfl,rfl⟩) hS ?_
        simp only[List.getElem_toArray,List.getElem_cons_succ,List.getElem_cons_zero,Act.put,List.setIfInBounds_toArray,List.set_cons_zero,List.set_cons_succ]
        refine wpAnyH_take (i:=5) (v:=undef) rfl (by kernel_rfl) (by kernel_rfl) (by kernel_rfl) (fun _ _ _ h=>h) (.inr ⟨by kernel_rfl,rfl⟩) hS ?_
        simp only[List.getElem_toArray,List.getElem_cons_succ,List.getElem_cons_zero,Act.put,List.setIfInBounds_toArray,List.set_cons_zero,List.set_cons_succ]
        refine wpAnyH_take (i:=6) (v:=undef) rfl (by kernel_rfl) (by kernel_rfl) (by kernel_rfl) (fun _ _ _ h=>h) (.inr ⟨by kernel_rfl,rfl⟩) hS ?_
        simp only[List.getElem_toArray,List.getElem_cons_succ,List.getElem_cons_zero,Act.put,List.setIfInBounds_toArray,List.set_cons_zero,List.set_cons_succ]
        refine wpAnyH_take (i:=7) (v:=undef) rfl (by kernel_rfl) (by kernel_rfl) (by kernel_rfl) (fun _ _ _ h=>h) (.inr ⟨by kernel_rfl,rfl⟩) hS ?_
        simp only[List.getElem_toArray,List.getElem_cons_succ,List.getElem_cons_zero,Act.put,List.setIfInBounds_toArray,List.set_cons_zero,List.set_cons_succ]
        refine wpAnyH_take (i:=8) (v:=undef) rfl (by kernel_rfl) (by kernel_rfl) (by kernel_rfl) (fun _ _ _ h=>h) (.inr ⟨by kernel_rfl,rfl⟩) hS ?_
        simp only[List.getElem_toArray,List.getElem_cons_succ,List.getElem_cons_zero,Act.put,List.setIfInBounds_toArray,List.set_cons_zero,List.set_cons_succ]
        refine wpAnyH_take (i:=9) (v:=undef) rfl (by kernel_rfl) (by kernel_rfl) (by kernel_rfl) (fun _ _ _ h=>h) (.inr ⟨by kernel_rfl,rfl⟩) hS ?_
        simp only[List.getElem_toArray,List.getElem_cons_succ,List.getElem_cons_zero,Act.put,List.setIfInBounds_toArray,List.set_cons_zero,List.set_cons_succ]
        refine wpAnyH_take (i:=10) (v:=undef) rfl (by kernel_rfl) (by kernel_rfl) (by kernel_rfl) (fun _ _ _ h=>h) (.inr ⟨by kernel_rfl,rfl⟩) hS ?_
        simp only[List.getElem_toArray,List.getElem_cons_succ,List.getElem_cons_zero,Act.put,List.setIfInBounds_toArray,List.set_cons_zero,List.set_cons_succ]
        refine wpAnyH_take (i:=11) (v:=undef) rfl (by kernel_rfl) (by kernel_rfl) (by kernel_rfl) (fun _ _ _ h=>h) (.inr ⟨by kernel_rfl,rfl⟩) hS ?_
        simp only[List.getElem_toArray,List.getElem_cons_succ,List.getElem_cons_zero,Act.put,List.setIfInBounds_toArray,List.set_cons_zero,List.set_cons_succ]
        refine wpAnyH_take (i:=12) (v:=undef) rfl (by kernel_rfl) (by kernel_rfl) (by kernel_rfl) (fun _ _ _ h=>h) (.inr ⟨by kernel_rfl,rfl⟩) hS ?_
        simp only[List.getElem_toArray,List.getElem_cons_succ,List.getElem_cons_zero,Act.put,List.setIfInBounds_toArray,List.set_cons_zero,List.set_cons_succ]
        refine wpAnyH_take (i:=13) (v:=undef) rfl (by kernel_rfl) (by kernel_rfl) (by kernel_rfl) (fun _ _ _ h=>h) (.inr ⟨by kernel_rfl,rfl⟩) hS ?_
        simp only[List.getElem_toArray,List.getElem_cons_succ,List.getElem_cons_zero,Act.put,List.setIfInBounds_toArray,List.set_cons_zero,List.set_cons_succ]
        refine wpAnyH_take (i:=14) (v:=undef) rfl (by kernel_rfl) (by kernel_rfl) (by kernel_rfl) (fun _ _ _ h=>h) (.inr ⟨by kernel_rfl,rfl⟩) hS ?_
        simp only[List.getElem_toArray,List.getElem_cons_succ,List.getElem_cons_zero,Act.put,List.setIfInBounds_toArray,List.set_cons_zero,List.set_cons_succ]
        refine wpAnyH_take (i:=15) (v:=undef) rfl (by kernel_rfl) (by kernel_rfl) (by kernel_rfl) (fun _ _ _ h=>h) (.inr ⟨by kernel_rfl,rfl⟩) hS ?_
        simp only[List.getElem_toArray,List.getElem_cons_succ,List.getElem_cons_zero,Act.put,List.setIfInBounds_toArray,List.set_cons_zero,List.set_cons_succ]
        refine wpAnyH_take (i:=16) (v:=undef) rfl (by kernel_rfl) (by kernel_rfl) (by kernel_rfl) (fun _ _ _ h=>h) (.inr ⟨by kernel_rfl,rfl⟩) hS ?_
        simp only[List.getElem_toArray,List.getElem_cons_succ,List.getElem_cons_zero,Act.put,List.setIfInBounds_toArray,List.set_cons_zero,List.set_cons_succ]
        refine tkH 17 ?_ rfl (fun w' hS=>?_) hS ?_
        rotate_left
        ·
         skip
         go_simp
         try with_reducible rfl
        refine wpAnyH_done (by kernel_rfl) ?_ _
        clear hS
        go_wp2
        go_meet
        exact⟨_,rfl,fun h=>(by simp at h),hkd⟩
       ·obtain⟨hCg2,hKd⟩:=hkd.out.krowE hpos
        obtain⟨d0,_,_,_,_,z0,-⟩:=edge_cells hKd (k+1) (by omega)
        obtain⟨d1,_,_,_,_,z1,-⟩:=edge_cells hKd k (by omega)
        have hkn:((k:Int)+1)<(nv:Int):=by omega
        have hkn2:(k:Int)<(nv:Int):=by omega
        have h01:(0:Int)≤(k:Int)+1:=by omega
        have h00:(0:Int)≤(k:Int):=by omega
        have hwk:IntKind.i64.wrap (k:Int)=(k:Int):=IntWalk.i64_in _ (by omega)
        have hqo:=hkd.out.qo
        clear hKd
        refine wp_region_held_drew (S:=fun V=>Blk V w2.heap.size #[.slice ax nx cx,.slice (some ⟨g,0,none⟩) nv cv] 28∧V.cell? ⟨g,(k+1) * 5,none⟩=some (.int .i64 d0)∧V.cell? ⟨g,k * 5,none⟩=some (.int .i64 d1)) (by kernel_rfl) ⟨hqo,z0,z1⟩ (fun hS=>?_)
        generalize u.drew=V0 at *
        clear z0 z1 hqo
        refine tkS [0,1,2,3,4,5,6,7,8,9,10,11,12,13,14,15,16,17] ?_
        iterate 18
         refine tkC ?_ rfl (fun w' hS=>?_) hS ?_
         rotate_left
         ·
          have y0:=hS.1.cell 1 rfl;have y1:=hS.2.1;have y2:=hS.2.2
          go_simp
          try with_reducible rfl
        refine wpAnyH_done (by kernel_rfl) ?_ _
        clear hS
        go_wp2
        go_meet
        exact⟨_,rfl,fun _=>Nat.succ_pos k,hkd⟩
      case rest=>
       obtain⟨q,rfl,hq,hk3⟩:=hcut
       clear hk2
       cases q
       ·clear hq
        go_wp2
        go_roundw
        case rel=>exact⟨i+1,by omega,by go_num,hk3⟩
        case measure=>simp[intOf];omega
       ·have hk0:=hq rfl
        clear hq
        obtain⟨k,rfl⟩:∃k',k=k'+1:=⟨k-1,by omega⟩
        have hkn:((k:Int)+1)<(nv:Int):=by omega
        have hkn2:(k:Int)<(nv:Int):=by omega
        have h01:(0:Int)≤(k:Int)+1:=by omega
        have h00:(0:Int)≤(k:Int):=by omega
        have hwk:IntKind.i64.wrap (k:Int)=(k:Int):=IntWalk.i64_in _ (by omega)
        obtain⟨-,hKc⟩:=hk3.out.krowE hpos
        obtain⟨d,d3,d4,s4,pv,z0,z1,z2,z3,z4,hp⟩:=edge_cells hKc (k+1) (by omega)
        obtain⟨pa2,pl2,pc2,rfl,-⟩:=id hp
        have q0:=hk3.out.qo.cell 1 rfl
        have hCc:=hk3.out.hb.size
        obtain⟨U,hU⟩:∃U,wc.alloc (.cells #[.int .i64 d,.int .i64 d3,.int .i64 d4,.string s4,.slice pa2 pl2 pc2] 81)=U:=⟨_,rfl⟩
        have hal2:Below wc.heap.size wc U:=by rw[←hU];exact(Below.refl _ _).alloc (Nat.le_refl _) _
        have hbx:Blk U wc.heap.size #[.int .i64 d,.int .i64 d3,.int .i64 d4,.string s4,.slice pa2 pl2 pc2] 81:=by rw[←hU];exact Blk.new _ _ _
        have hIU:=hk3.out.stay hCc hal2
        have hpU:=hp.gs (GS.of_below hCc hal2)
        have hgw:g<wc.heap.size:=hKc.lt
        replace hU:=Hd hU
        replace hbx:=Hd hbx
        replace hIU:=Hd hIU
        replace hpU:=Hd hpU
        replace hgw:=Hd hgw
        clear hp hKc hal2 hk3 hCc
        go_upto_region 21 with fail
        rw[hU.out]
        clear z0 z1 z2 z3 z4 q0 hU
        have hdr:Below U.heap.size U U.drew:=Below_drewN 1 (Below.refl _ _)
        have hI0:Hid (PI W.heap.size (w.heap.size+1) w2.heap.size W (.slice ax nx cx) (.slice (some ⟨g,0,none⟩) nv cv) U.drew):=Hd (hIU.out.stay hIU.out.hb.size hdr)
        have hx0:Hid (Blk U.drew wc.heap.size #[.int .i64 d,.int .i64 d3,.int .i64 d4,.string s4,.slice pa2 pl2 pc2] 81):=hbx
        have hp0:Hid (PrpS W.heap.size U.drew (.slice pa2 pl2 pc2)):=Hd (hpU.out.gs (GS.of_below hIU.out.hb.size hdr))
        obtain⟨-,hK0⟩:=hI0.out.krowE hpos
        obtain⟨d2,d5,d6,s5,pv3,z0,z1,z2,z3,z4,hp2⟩:=edge_cells hK0 k (by omega)
        obtain⟨pa3,pl3,pc3,rfl,-⟩:=id hp2
        have hqo:=hI0.out.qo
        clear hIU hbx hpU hdr
        refine wp_region_late [10] (S:=fun V=>Blk V w2.heap.size #[.slice ax nx cx,.slice (some ⟨g,0,none⟩) nv cv] 28∧V.cell? ⟨g,k * 5,none⟩=some (.int .i64 d2)∧V.cell? ⟨g,k * 5+1,none⟩=some (.int .i64 d5)∧V.cell? ⟨g,k * 5+2,none⟩=some (.int .i64 d6)∧V.cell? ⟨g,k * 5+3,none⟩=some (.string s5)∧V.cell? ⟨g,k * 5+4,none⟩=some (.slice pa3 pl3 pc3)) (by kernel_rfl) ⟨hqo,z0,z1,z2,z3,z4⟩ (fun hS=>?_)
        generalize U.drew=V0 at *
        clear z0 z1 z2 z3 z4 hqo
        refine tlS [0,1,2,3,4,5,6,7,8,9] ?_
        iterate 10
         refine tlC ?_ rfl (fun w' hS=>?_) hS ?_
         rotate_left
         ·
          have y0:=hS.1.cell 1 rfl;have y1:=hS.2.1;have y2:=hS.2.2.1;have y3:=hS.2.2.2.1;have y4:=hS.2.2.2.2.1;have y5:=hS.2.2.2.2.2
          go_simp
          try with_reducible rfl
        refine wpAnyL_late (i:=10) (by kernel_rfl) rfl (by kernel_rfl) (fun K hK=>?_)
        clear hS
        refine wp_storeK (.tmp 124) (.tmp 123) 81 rfl g ((k+1) * 5) (nv * 5) #[.int .i64 d2,.int .i64 d5,.int .i64 d6,.string s5,.slice pa3 pl3 pc3] rfl rfl infoE1 (edge_new (k+1) hp2) hK0 (by show _+5≤_;omega) (fun w5 hm=>?_)
        have hgs5:GS W.heap.size V0 w5:=by
         obtain⟨cs,hq⟩:=hK0.blk
         exact GS.of_keep hI0.out.hb.size hCg hq (by decide) (by decide) hm.keep
        have hI5:=Hd (hI0.out.edge hI0.out.hb.size hCg hK0.blk hm)
        have hx5:=Hd (hx0.out.keep hm.keep (by have:=hgw.out;simp;omega))
        have hp5:=Hd (hp0.out.gs hgs5)
        refine hK.out _ _ ?_
        clear hK K hI0 hx0 hp0 hK0 hp2 hm hgs5
        try simp only[List.getElem_toArray,List.getElem_cons_succ,List.getElem_cons_zero,Act.put,List.setIfInBounds_toArray,List.set_cons_zero,List.set_cons_succ]
        refine wpAnyL_done (by kernel_rfl) ?_ _
        have z0:=hx5.out.cell 0 rfl
        have z1:=hx5.out.cell 1 rfl
        have z2:=hx5.out.cell 2 rfl
        have z3:=hx5.out.cell 3 rfl
        have z4:=hx5.out.cell 4 rfl
        have q0:=hI5.out.qo.cell 1 rfl
        obtain⟨-,hK5⟩:=hI5.out.krowE hpos
        replace hK5:=Hd hK5
        clear hx5
        go_wp2_with (refine wpList_storeK rfl _ _ 81 rfl g (k * 5) (nv * 5) #[.int .i64 d,.int .i64 d3,.int .i64 d4,.string s4,.slice pa2 pl2 pc2] rfl rfl infoE1 (edge_new k hp5.out) hK5.out ?c1 ?c2)
        case c1=>show _+5≤_;omega
        case c2=>
         intro w6 hm
         have hI6:=Hd (hI5.out.edge hI5.out.hb.size hCg hK5.out.blk hm)
         clear hI5 hK5 hp5 hm z0 z1 z2 z3 z4 q0
         go_wp2
         go_roundw
         case rel=>exact⟨k,by omega,by go_num,hI6⟩
         case measure=>simp[intOf]
    ·have hii:¬(i:Int)<(nv:Int):=by omega
     have q0:=hI.out.qo.cell 0 rfl
     have q1:=hI.out.qo.cell 1 rfl
     have r0:=hI.out.qr.cell 0 rfl
     have r1:=hI.out.qr.cell 1 rfl
     have f0:=hI.out.qr.free
     have hfin:=Hd ((hI.out.qr.set 0 (.slice ax nx cx)).set 1 (.slice av nv cv))
     have hbf:=Hd (((hal.out.trans (hI.out.hb.mono hCw.out)).setCell (p:=⟨w.heap.size+1,0,none⟩) (by simp) (.slice ax nx cx)).setCell (p:=⟨w.heap.size+1,1,none⟩) (by simp) (.slice av nv cv))
     clear hI
     go_wp2
     refine bodyPost_ret (v:=.agg #[.slice ax nx cx,.slice av nv cv]) (results_cell_row rfl _ _ (w.heap.size+1) 28 _ (0,0) _ rfl hfin.out.eq Tryz.underlying28 rfl infoG2) rfl ⟨ax,nx,cx,av,nv,cv,rfl,hbf.out⟩
end Go.Proofs.YtcaeipdgbaligaaGreatDoor.ex
