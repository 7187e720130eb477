/- Texts JnSides, JnMap, JnHash, JnKey, JnHashed, one behind the other. -/
import Derived.Test.YtmpldjbdhbapbaaGreatDoorJnA
import Derived.Maps.AppendAt
import Derived.Test.YtmpldjbdhbapbaaGreatDoorTabSameA
set_option linter.unusedSimpArgs false
set_option linter.unusedVariables false
set_option maxRecDepth 100000
set_option maxHeartbeats 4000000
namespace Go.Proofs.YtmpldjbdhbapbaaGreatDoor.tab
open Go.ChangeShapes Go.WideShapes Go.ChangeAt Go.RowKit kit dec val
open hyp (RowA TextsA CellsStay stay_of_below textsV textsV_length own_row OW)
structure TwoI(w0 w:World)(va vb:Value)(L R:List Nat):Prop where
 below:Below w0.heap.size w0 w
 l:w.ownsRow w0.heap.size 3 1 va L.length (numsN L)
 r:w.ownsRow w0.heap.size 3 1 vb R.length (numsN R)
 apart:va.ownBlock=none∨va.ownBlock≠vb.ownBlock
theorem TwoI.swap{w0 w:World}{va vb:Value}{L R:List Nat}(h:TwoI w0 w va vb L R):TwoI w0 w vb va R L:=by
 refine⟨h.below,h.r,h.l,?_⟩
 rcases h.apart with h1|h1
 ·cases hr:vb.ownBlock with
  |none=>exact .inl rfl
  |some g=>exact .inr (by rw[h1];simp)
 ·exact .inr (Ne.symm h1)
theorem TwoI.alloc{w0 w:World}{va vb:Value}{L R:List Nat}(h:TwoI w0 w va vb L R)(o:Obj):TwoI w0 (w.alloc o) va vb L R:=
 ⟨h.below.alloc h.below.size o,h.l.alloc o,h.r.alloc o,h.apart⟩
theorem TwoI.stay{w0 w w':World}{va vb:Value}{L R:List Nat}(h:TwoI w0 w va vb L R)(hb:Below w.heap.size w w'):TwoI w0 w' va vb L R:=
 ⟨h.below.trans (hb.mono h.below.size),own_stay h.l fun g hg=>hb.block g (h.l.lt g hg).2,own_stay h.r fun g hg=>hb.block g (h.r.lt g hg).2,h.apart⟩
theorem numsN_snoc(L:List Nat)(n:Nat):numsN (L++[n])=numsN L++[.int .i64 (n:Int)]:=by simp[numsN]
theorem wp_appI{o:Oper}{a:Act}{K:Act→World→Prop}{Q:Exit→Act→World→Prop}(s x:Operand)(ho:o.op=.call { callee:=.builtin .append,args:=#[s,x],argTypes:=#[52,52] })
 (w0 w:World)(va vb:Value)(L R:List Nat)(h:TwoI w0 w va vb L R)(hL:L.length≤1048576)(hs:a.eval s=va)(b n:Nat)(hx:a.eval x=.slice (some ⟨b,0,none⟩) 1 1)(hb:Blk w b #[.int .i64 (n:Int)] 3)
 (hK:∀va' w',TwoI w0 w' va' vb (L++[n]) R→w.grownBy w' va.ownBlock→(va'.ownBlock=va.ownBlock∨va'.ownBlock=some w.heap.size)→K (a.put o.dst va') w'):o.wp Tryz.prog a w K Q:=by
 obtain⟨i1,hi1,hy0,hy1,hy2⟩:=info_parts infoInt
 have hnews:∀j u,[Value.int .i64 (n:Int)][j]? = some u→w.cell? ((⟨b,0,none⟩:Addr).add j)=some u:=fun j u hu=>by
  rw[Go.WideShapes.add_plain,Nat.zero_add]
  match j,hu with
  |0,hu=>exact hb.cell 0 hu
  |j+1,hu=>simp at hu
 obtain⟨v',w',hr,h2,h3,_,h5⟩:=run_append_own_at (P:=Tryz.prog) w w0.heap.size 52 o.type 3 i1 (.int .i64 0) 1 8 Tryz.underlying52 hi1 hy0 hy1 hy2 rfl (by decide) va L.length (numsN L) h.l ⟨b,0,none⟩ 1 1 [.int .i64 (n:Int)] rfl hnews (by simp[Value.oneCell']) (by simp only[maxLen];omega) (by omega) h.below.size
 have hap:va.ownBlock=none∨va.ownBlock≠vb.ownBlock:=h.apart
 unfold Oper.wp execOp
 simp only[ho,resolve,invoke,builtin,Sem.run_bind,Sem.run_pure,Result.andThen_ok,List.map_toArray,List.map_cons,List.map_nil,hs,hx,hr]
 refine hK v' w' ⟨h.below.grown h3 h.below.size (fun k hk=>(h.l.lt k hk).1),by rw[List.length_append,numsN_snoc];exact h2,h.r.kept h3 h.swap.apart,?_⟩ h3 h5
 rcases h5 with e|e
 ·rw[e];exact hap
 ·refine .inr ?_
  rw[e]
  intro e0
  have:=(h.r.lt _ e0.symm).2
  omega
theorem sides_any(w:World)(pr:List (Nat×Nat))(v1 v2 vs:Value)(hvs:PairR w vs pr)(hl:pr.length≤1000000)(h1:∃a n c,v1=.slice a n c)(h2:∃a n c,v2=.slice a n c):
 Calls Tryz.prog 45 #[.agg #[v1,v2,vs]] w fun e w'=>∃va vb,e=.returned (.tuple #[va,vb])∧TwoI w w' va vb (pr.map (·.1)) (pr.map (·.2)):=by
 obtain⟨ao4,c4,rfl,hpr⟩:=hvs
 obtain⟨a1,n1,c1,rfl⟩:=h1
 obtain⟨a2,n2,c2,rfl⟩:=h2
 have hal:=(Below.refl w.heap.size w).alloc (Nat.le_refl _) (.cells #[.slice a1 n1 c1,.slice a2 n2 c2,.slice ao4 pr.length c4] 55)
 have hT0:Hid (TwoI w (w.alloc (.cells #[.slice a1 n1 c1,.slice a2 n2 c2,.slice ao4 pr.length c4] 55)) (.slice none 0 0) (.slice none 0 0) [] []):=Hd ⟨hal,World.ownsRow_nil _ _ _ _,World.ownsRow_nil _ _ _ _,.inl rfl⟩
 replace hpr:=Hd hpr
 clear hal
 go_enter Tryz.func45,Tryz.ntmps45
 go_wp2
 go_loopw [2,3,9] (fun va vb i wr=>∃k:Nat,k≤pr.length∧i=.int .i64 (k:Int)∧Hid (TwoI w wr va vb ((pr.take k).map (·.1)) ((pr.take k).map (·.2)))) (fun _ _ i _=>pr.length-(intOf i).toNat)
 case atStart=>exact⟨0,Nat.zero_le _,rfl,by simpa using hT0⟩
 case round =>
  clear hT0
  obtain⟨k,hk,rfl,hT⟩:=hrel
  by_cases hlt:k<pr.length
  ·have hki:(k:Int)<(pr.length:Int):=by omega
   have hk1:=Hd (show k+1≤pr.length from hlt)
   obtain⟨b,off,rfl,hb,hc1,hc2⟩:=hpr.out k hlt
   replace hc1:=sB hT.out.below hc1
   replace hc2:=sB hT.out.below hc2
   have ht1:(pr.take (k+1)).map (·.1)=(pr.take k).map (·.1)++[(pr[k]'hlt).1]:=by rw[List.take_succ_eq_append_getElem hlt,List.map_append];rfl
   have ht2:(pr.take (k+1)).map (·.2)=(pr.take k).map (·.2)++[(pr[k]'hlt).2]:=by rw[List.take_succ_eq_append_getElem hlt,List.map_append];rfl
   have hLl:((pr.take k).map (·.1)).length≤1048576:=by rw[List.length_map,List.length_take];omega
   have hRl:((pr.take k).map (·.2)).length≤1048576:=by rw[List.length_map,List.length_take];omega
   generalize (pr.take k).map (·.1)=L at *
   generalize (pr.take k).map (·.2)=R at *
   generalize (pr[k]'hlt).1=x at *
   generalize (pr[k]'hlt).2=y at *
   replace ht1:=Hd ht1
   replace ht2:=Hd ht2
   obtain⟨va,rfl⟩:∃va,va=u2:=⟨_,rfl⟩
   obtain⟨vb,rfl⟩:∃vb,vb=u3:=⟨_,rfl⟩
   go_upto_region 4 with fail
   have hT1:=hT.out.alloc (.cells #[.int .i64 (x:Int),.int .i64 (y:Int)] 86)
   have hq:=Blk.new wr #[.int .i64 (x:Int),.int .i64 (y:Int)] 86
   clear hT hc1 hc2
   obtain⟨pq,hpq⟩:∃pq,wr.heap.size=pq:=⟨_,rfl⟩
   rw[hpq]at hq
   try rw[hpq]
   replace hpq:=Hd hpq
   generalize (wr.alloc (.cells #[.int .i64 (x:Int),.int .i64 (y:Int)] 86))=wv at *
   replace hT1:=Hd hT1
   replace hq:=Hd hq
   have hTV0:TwoI w wv.drew va vb L R:=hT1.out.stay (below_drewN (Below.refl _ _) 1)
   have hBV0:Blk wv.drew pq #[.int .i64 (x:Int),.int .i64 (y:Int)] 86:=hq.out
   refine wp_region_held_drew (S:=fun V=>Blk V pq #[.int .i64 (x:Int),.int .i64 (y:Int)] 86) (by kernel_rfl) hBV0 (fun hS=>?_)
   generalize wv.drew=V0 at *
   clear hT1 hq
   refine tkS [0,1,2,5,6,7] ?_
   iterate 6
    refine tkC ?_ rfl (fun w' hS=>?_) hS ?_
    rotate_left
    ·
     have q0:=hS.cell 0 rfl;have q1:=hS.cell 1 rfl
     go_simp
     try with_reducible rfl
   refine wpAnyH_ready (rs:=[3,8]) (by kernel_rfl) (by simp) ?_
   refine AllReadyH.cons rfl (fun K hK=>?_) (AllReadyH.cons rfl (fun K hK=>?_) AllReadyH.nil)
   ·clear hS
    go_simp
    go_wp2_with fail
    have hTV1:=hTV0.alloc (.cells #[.int .i64 (x:Int)] 3)
    have hBV1:=hBV0.alloc (.cells #[.int .i64 (x:Int)] 3)
    have hX:=Blk.new V0 #[.int .i64 (x:Int)] 3
    have hzV1:(V0.alloc (.cells #[.int .i64 (x:Int)] 3)).heap.size=V0.heap.size+1:=World.size_alloc _ _
    refine hKo hK hBV1 (fun hS=>?_)
    clear hK K
    obtain⟨p1,hp1⟩:∃p,V0.heap.size=p:=⟨_,rfl⟩
    rw[hp1]at hX hzV1
    try rw[hp1]
    have hgep1:V0.heap.size≤p1:=by omega
    have hgfp1:V0.heap.size≤(V0.alloc (.cells #[.int .i64 (x:Int)] 3)).heap.size:=by omega
    replace hzV1:=Hd hzV1
    replace hp1:=Hd hp1
    generalize (V0.alloc (.cells #[.int .i64 (x:Int)] 3))=V1 at *
    refine wpAnyH_ready (rs:=[4,8]) (by kernel_rfl) (by simp) ?_
    refine AllReadyH.cons rfl (fun K hK=>?_) (AllReadyH.cons rfl (fun K hK=>?_) AllReadyH.nil)
    ·clear hS
     rw[if_pos (by kernel_rfl)]
     refine wp_appI (.tmp 13) (.tmp 16) rfl w V1 va vb L R hTV1 hLl rfl p1 x rfl hX ?_
     intro va2 V2 hTV2 hgV2 hatV2
     have hgsV2:V0.heap.size≤V2.heap.size:=by have:=hgV2.size;omega
     have hBV2:Blk V2 pq #[.int .i64 (x:Int),.int .i64 (y:Int)] 86:=(hgV2.block pq hBV1.lt (fun e=>own_ne hTV1.l hBV1 (by decide) e.symm)).trans hBV1
     refine hKo hK hBV2 (fun hS=>?_)
     clear hK K
     refine rdH 8 rfl (fun K hK=>?_)
     clear hS
     go_simp
     go_wp2_with fail
     have hTV3:=hTV2.alloc (.cells #[.int .i64 (y:Int)] 3)
     have hBV3:=hBV2.alloc (.cells #[.int .i64 (y:Int)] 3)
     have hY:=Blk.new V2 #[.int .i64 (y:Int)] 3
     have hzV3:(V2.alloc (.cells #[.int .i64 (y:Int)] 3)).heap.size=V2.heap.size+1:=World.size_alloc _ _
     refine hKo hK hBV3 (fun hS=>?_)
     clear hK K
     obtain⟨p2,hp2⟩:∃p,V2.heap.size=p:=⟨_,rfl⟩
     rw[hp2]at hY hzV3
     try rw[hp2]
     have hgep2:V0.heap.size≤p2:=by omega
     have hgfp2:V0.heap.size≤(V2.alloc (.cells #[.int .i64 (y:Int)] 3)).heap.size:=by omega
     replace hzV3:=Hd hzV3
     replace hp2:=Hd hp2
     generalize (V2.alloc (.cells #[.int .i64 (y:Int)] 3))=V3 at *
     refine rdH 9 rfl (fun K hK=>?_)
     clear hS
     rw[if_pos (by kernel_rfl)]
     refine wp_appI (.tmp 18) (.tmp 21) rfl w V3 vb va2 R (L++[x]) hTV3.swap hRl rfl p2 y rfl hY ?_
     intro vb2 V4 hTV4 hgV4 hatV4
     have hBV4:Blk V4 pq #[.int .i64 (x:Int),.int .i64 (y:Int)] 86:=(hgV4.block pq hBV3.lt (fun e=>own_ne hTV3.r hBV3 (by decide) e.symm)).trans hBV3
     refine hKo hK hBV4 (fun hS=>?_)
     clear hK K
     refine tkH 10 ?_ rfl (fun w' hS=>?_) hS ?_
     rotate_left
     ·
      skip
      go_simp
      try with_reducible rfl
     refine tkH 11 ?_ rfl (fun w' hS=>?_) hS ?_
     rotate_left
     ·
      skip
      go_simp
      try with_reducible rfl
     refine wpAnyH_done (by kernel_rfl) ?_ _
     clear hS
     have hfin:=Hd hTV4.swap
     go_wp2
     go_roundw
     case rel=>exact⟨k+1,hk1.out,by go_num,by rw[ht1.out,ht2.out];exact hfin⟩
     case measure=>have:=hk1.out;simp[intOf];omega
    ·have hX2:=hX.alloc (.cells #[.int .i64 (y:Int)] 3)
     clear hS
     go_simp
     go_wp2_with fail
     have hTV2:=hTV1.alloc (.cells #[.int .i64 (y:Int)] 3)
     have hBV2:=hBV1.alloc (.cells #[.int .i64 (y:Int)] 3)
     have hY:=Blk.new V1 #[.int .i64 (y:Int)] 3
     have hzV2:(V1.alloc (.cells #[.int .i64 (y:Int)] 3)).heap.size=V1.heap.size+1:=World.size_alloc _ _
     refine hKo hK hBV2 (fun hS=>?_)
     clear hK K
     obtain⟨p2,hp2⟩:∃p,V1.heap.size=p:=⟨_,rfl⟩
     rw[hp2]at hY hzV2
     try rw[hp2]
     have hgep2:V0.heap.size≤p2:=by omega
     have hgfp2:V0.heap.size≤(V1.alloc (.cells #[.int .i64 (y:Int)] 3)).heap.size:=by omega
     replace hzV2:=Hd hzV2
     replace hp2:=Hd hp2
     generalize (V1.alloc (.cells #[.int .i64 (y:Int)] 3))=V2 at *
     refine rdH 4 rfl (fun K hK=>?_)
     clear hS
     rw[if_pos (by kernel_rfl)]
     refine wp_appI (.tmp 13) (.tmp 16) rfl w V2 va vb L R hTV2 hLl rfl p1 x rfl hX2 ?_
     intro va2 V3 hTV3 hgV3 hatV3
     have hgsV3:V0.heap.size≤V3.heap.size:=by have:=hgV3.size;omega
     have hBV3:Blk V3 pq #[.int .i64 (x:Int),.int .i64 (y:Int)] 86:=(hgV3.block pq hBV2.lt (fun e=>own_ne hTV2.l hBV2 (by decide) e.symm)).trans hBV2
     refine hKo hK hBV3 (fun hS=>?_)
     clear hK K
     have hY3:Blk V3 p2 #[.int .i64 (y:Int)] 3:=(hgV3.block p2 hY.lt (fun e=>by have:=(hTV0.l.lt _ e.symm).2;omega)).trans hY
     refine rdH 9 rfl (fun K hK=>?_)
     clear hS
     rw[if_pos (by kernel_rfl)]
     refine wp_appI (.tmp 18) (.tmp 21) rfl w V3 vb va2 R (L++[x]) hTV3.swap hRl rfl p2 y rfl hY3 ?_
     intro vb2 V4 hTV4 hgV4 hatV4
     have hBV4:Blk V4 pq #[.int .i64 (x:Int),.int .i64 (y:Int)] 86:=(hgV4.block pq hBV3.lt (fun e=>own_ne hTV3.r hBV3 (by decide) e.symm)).trans hBV3
     refine hKo hK hBV4 (fun hS=>?_)
     clear hK K
     refine tkH 10 ?_ rfl (fun w' hS=>?_) hS ?_
     rotate_left
     ·
      skip
      go_simp
      try with_reducible rfl
     refine tkH 11 ?_ rfl (fun w' hS=>?_) hS ?_
     rotate_left
     ·
      skip
      go_simp
      try with_reducible rfl
     refine wpAnyH_done (by kernel_rfl) ?_ _
     clear hS
     have hfin:=Hd hTV4.swap
     go_wp2
     go_roundw
     case rel=>exact⟨k+1,hk1.out,by go_num,by rw[ht1.out,ht2.out];exact hfin⟩
     case measure=>have:=hk1.out;simp[intOf];omega
   ·clear hS
    go_simp
    go_wp2_with fail
    have hTV1:=hTV0.alloc (.cells #[.int .i64 (y:Int)] 3)
    have hBV1:=hBV0.alloc (.cells #[.int .i64 (y:Int)] 3)
    have hY:=Blk.new V0 #[.int .i64 (y:Int)] 3
    have hzV1:(V0.alloc (.cells #[.int .i64 (y:Int)] 3)).heap.size=V0.heap.size+1:=World.size_alloc _ _
    refine hKo hK hBV1 (fun hS=>?_)
    clear hK K
    obtain⟨p2,hp2⟩:∃p,V0.heap.size=p:=⟨_,rfl⟩
    rw[hp2]at hY hzV1
    try rw[hp2]
    have hgep2:V0.heap.size≤p2:=by omega
    have hgfp2:V0.heap.size≤(V0.alloc (.cells #[.int .i64 (y:Int)] 3)).heap.size:=by omega
    replace hzV1:=Hd hzV1
    replace hp2:=Hd hp2
    generalize (V0.alloc (.cells #[.int .i64 (y:Int)] 3))=V1 at *
    have hY2:=hY.alloc (.cells #[.int .i64 (x:Int)] 3)
    refine rdH 3 rfl (fun K hK=>?_)
    clear hS
    go_simp
    go_wp2_with fail
    have hTV2:=hTV1.alloc (.cells #[.int .i64 (x:Int)] 3)
    have hBV2:=hBV1.alloc (.cells #[.int .i64 (x:Int)] 3)
    have hX:=Blk.new V1 #[.int .i64 (x:Int)] 3
    have hzV2:(V1.alloc (.cells #[.int .i64 (x:Int)] 3)).heap.size=V1.heap.size+1:=World.size_alloc _ _
    refine hKo hK hBV2 (fun hS=>?_)
    clear hK K
    obtain⟨p1,hp1⟩:∃p,V1.heap.size=p:=⟨_,rfl⟩
    rw[hp1]at hX hzV2
    try rw[hp1]
    have hgep1:V0.heap.size≤p1:=by omega
    have hgfp1:V0.heap.size≤(V1.alloc (.cells #[.int .i64 (x:Int)] 3)).heap.size:=by omega
    replace hzV2:=Hd hzV2
    replace hp1:=Hd hp1
    generalize (V1.alloc (.cells #[.int .i64 (x:Int)] 3))=V2 at *
    refine rdH 4 rfl (fun K hK=>?_)
    clear hS
    rw[if_pos (by kernel_rfl)]
    refine wp_appI (.tmp 13) (.tmp 16) rfl w V2 va vb L R hTV2 hLl rfl p1 x rfl hX ?_
    intro va2 V3 hTV3 hgV3 hatV3
    have hgsV3:V0.heap.size≤V3.heap.size:=by have:=hgV3.size;omega
    have hBV3:Blk V3 pq #[.int .i64 (x:Int),.int .i64 (y:Int)] 86:=(hgV3.block pq hBV2.lt (fun e=>own_ne hTV2.l hBV2 (by decide) e.symm)).trans hBV2
    refine hKo hK hBV3 (fun hS=>?_)
    clear hK K
    have hY3:Blk V3 p2 #[.int .i64 (y:Int)] 3:=(hgV3.block p2 hY2.lt (fun e=>by have:=(hTV0.l.lt _ e.symm).2;omega)).trans hY2
    refine rdH 9 rfl (fun K hK=>?_)
    clear hS
    rw[if_pos (by kernel_rfl)]
    refine wp_appI (.tmp 18) (.tmp 21) rfl w V3 vb va2 R (L++[x]) hTV3.swap hRl rfl p2 y rfl hY3 ?_
    intro vb2 V4 hTV4 hgV4 hatV4
    have hBV4:Blk V4 pq #[.int .i64 (x:Int),.int .i64 (y:Int)] 86:=(hgV4.block pq hBV3.lt (fun e=>own_ne hTV3.r hBV3 (by decide) e.symm)).trans hBV3
    refine hKo hK hBV4 (fun hS=>?_)
    clear hK K
    refine tkH 10 ?_ rfl (fun w' hS=>?_) hS ?_
    rotate_left
    ·
     skip
     go_simp
     try with_reducible rfl
    refine tkH 11 ?_ rfl (fun w' hS=>?_) hS ?_
    rotate_left
    ·
     skip
     go_simp
     try with_reducible rfl
    refine wpAnyH_done (by kernel_rfl) ?_ _
    clear hS
    have hfin:=Hd hTV4.swap
    go_wp2
    go_roundw
    case rel=>exact⟨k+1,hk1.out,by go_num,by rw[ht1.out,ht2.out];exact hfin⟩
    case measure=>have:=hk1.out;simp[intOf];omega
  ·have hki:¬(k:Int)<(pr.length:Int):=by omega
   obtain rfl:k=pr.length:=by omega
   rw[List.take_length]at hT
   go_wp2
   go_ret2
   exact⟨_,_,rfl,hT.out⟩
open Go.ChangeMaps Go.MapKept
open Go.Maps (Keyed IsMap Tidy string_keyed KeysOf fit_keys fit_apart)
def heldR(v:Value):Option (DataW Value×List MemPlace):=some (.held v,[])
def MapV(P:Program)(K:TypeId)(zv:Value)(w:World)(b n:Nat)(f:List UInt8→Option Value):Prop:=
 ∃D:DataW Value,w.ownsMap P K heldR b n D∧∀x:List UInt8,Maps.has D (.string x)=(f x).isSome∧D.atKey (.string x) (.held zv)=.held ((f x).getD zv)
def updV(f:List UInt8→Option Value)(k:List UInt8)(v:Value):List UInt8→Option Value:=fun x=>if x=k then some v else f x
section
variable{P:Program}{K:TypeId}{zv:Value}{w w':World}{b n:Nat}{f:List UInt8→Option Value}
theorem MapV.made(w:World):MapV P K zv (w.alloc (.map #[] 0)) w.heap.size 0 (fun _=>none):=
 ⟨.map [],World.ownsMap_made w P K _,fun x=>⟨rfl,rfl⟩⟩
theorem MapV.same(h:MapV P K zv w b n f)(hb:w'.heap[b]? = w.heap[b]?):MapV P K zv w' b n f:=by
 obtain⟨D,⟨es,clock,h0,r⟩,h2⟩:=h
 exact⟨D,⟨es,clock,hb.trans h0,r⟩,h2⟩
theorem MapV.lt(h:MapV P K zv w b n f):b<w.heap.size:=by
 obtain⟨D,h1,_⟩:=h
 exact h1.lt
end
section
variable{P:Program}{T K E:TypeId}{zv:Value}(hT:P.underlying T=some (.map K E))(hKs:P.underlying K=some .string)(w:World){ops:Array Oper}{rest:List Oper}{o:Oper}{a:Act}{Q:Exit→Act→World→Prop}
include hT hKs
theorem wpList_mapV(hz:(zeroValue E).run P w=.ok zv w)(hg:o.guard=none)(m x:Operand)(hop:o.op=Op.lookup T m x false)(b n:Nat)(f:List UInt8→Option Value)(ha:a.eval m=.map (some b))(h:MapV P K zv w b n f)(key:ByteArray)(hks:key.size≤maxLen)(hx:a.eval x=.string key)(r:Option Value)(hr:f key.data.toList=r)
 (hK:wpList P ops Q rest (a.put o.dst (r.getD zv)) w):wpList P ops Q (o::rest) a w:=by
 subst hr
 obtain⟨D,⟨es,clock,hb,F,hs,hD0⟩,hD⟩:=h
 obtain⟨h1,h2⟩:=hD key.data.toList
 have hkey:=keyOf_text hKs key hks
 have hrun:(Instr.lookup T (.map (some b)) (.string key) false).run P w=.ok ((f key.data.toList).getD zv) w:=by
  rcases Maps.fit_look false (string_keyed hKs) hT hz hb F hkey with⟨hrun,_,hat⟩|⟨e0,y,hm0,h3,hrun,hR,hat,_⟩
  ·have h4:=hat (.held zv)
   rw[←hD0,h2]at h4
   injection h4 with h4
   rw[h4]
   exact hrun
  ·have h4:=hat (.held zv)
   rw[←hD0,h2]at h4
   have h5:y.1=.held e0.val:=by
    unfold heldR at hR
    injection hR with hR
    rw[←hR]
   rw[h5]at h4
   injection h4 with h4
   rw[h4]
   exact hrun
 refine wpList_plain hg fun K' hK'=>?_
 unfold Oper.wp
 simp[execOp,hop,ha,hx,hrun,Result.andThen]
 exact hK' _ _ hK
theorem wpList_mapV_put(hg:o.guard=none)(m x v:Operand)(hop:o.op=Op.mapUpdate T m x v)(b n:Nat)(f:List UInt8→Option Value)(ha:a.eval m=.map (some b))(h:MapV P K zv w b n f)(hn:n<maxLen)
 (key:ByteArray)(hks:key.size≤maxLen)(val:Value)(hx:a.eval x=.string key)(hv:a.eval v=val)
 (hK:∀w',MapV P K zv w' b (n+1) (updV f key.data.toList val)→w.grownBy w' (some b)→wpList P ops Q rest (a.put o.dst undef) w'):wpList P ops Q (o::rest) a w:=by
 obtain⟨D,hown,hD⟩:=h
 have hkl:=keyOf_text hKs key hks
 refine wpList_mapUpdate_own w hg m x v T hop K E (string_keyed hKs) hT heldR b n D ha hown hn _ _ _ hx hv hkl (.held val) [] rfl ?_
 intro w' hown' hgr
 refine hK w' ⟨_,hown',fun y=>?_⟩ hgr
 by_cases hyk:y=key.data.toList
 ·subst hyk
  unfold updV
  rw[if_pos rfl]
  exact⟨Maps.has_put_same hown.isMap ((string_keyed hKs).key hkl) _,Maps.atKey_put_same hown.isMap ((string_keyed hKs).key hkl) _ _⟩
 ·have hne:Lit.string y≠Lit.string key.data.toList:=fun e=>hyk (by injection e)
  unfold updV
  rw[if_neg hyk,Maps.has_put_other hne,Maps.atKey_put_other hne]
  exact hD y
end
def nilS:Value:=.slice none 0 0
def updG(g:List UInt8→List Nat)(k:List UInt8)(l:List Nat):List UInt8→List Nat:=fun x=>if x=k then l else g x
structure HashW(w0 w:World)(b hb:Nat)(cs:Value→Array Value)(n:Nat)(f:List UInt8→Option Value)(g:List UInt8→List Nat)(vl:Value)(L:List Nat):Prop where
 keep:Keep [b,hb] w0 w
 blt:b<w0.heap.size
 hlt:hb<w0.heap.size
 box:Blk w hb (cs vl) 90
 map:MapV Tryz.prog 9 nilS w b n f
 rows:∀k,w.ownsRow w0.heap.size 3 1 ((f k).getD nilS) (g k).length (numsN (g k))
 loose:w.ownsRow w0.heap.size 3 1 vl L.length (numsN L)
 apart:∀k1 k2,k1≠k2→((f k1).getD nilS).ownBlock=none∨((f k1).getD nilS).ownBlock≠((f k2).getD nilS).ownBlock
 apl:∀k,((f k).getD nilS).ownBlock=none∨((f k).getD nilS).ownBlock≠vl.ownBlock
theorem apart_swap{v u:Value}(h:v.ownBlock=none∨v.ownBlock≠u.ownBlock):u.ownBlock=none∨u.ownBlock≠v.ownBlock:=by
 rcases h with h1|h1
 ·cases hr:u.ownBlock with
  |none=>exact .inl rfl
  |some g=>exact .inr (by rw[h1];simp)
 ·exact .inr (Ne.symm h1)
theorem apart_new{w:World}{B:Nat}{e:TypeId}{s n:Nat}{v v' u:Value}{xs:List Value}(h:v.ownBlock=none∨v.ownBlock≠u.ownBlock)(hu:w.ownsRow B e s u n xs)(hat:v'.ownBlock=v.ownBlock∨v'.ownBlock=some w.heap.size):v'.ownBlock=none∨v'.ownBlock≠u.ownBlock:=by
 rcases hat with e1|e1
 ·rw[e1];exact h
 ·refine .inr ?_
  rw[e1]
  intro e0
  have:=(hu.lt _ e0.symm).2
  omega
theorem own_not_map{w:World}{P:Program}{K:TypeId}{zv v:Value}{B b m s n:Nat}{e:TypeId}{f:List UInt8→Option Value}{xs:List Value}(h:w.ownsRow B e s v n xs)(hm:MapV P K zv w b m f):v.ownBlock≠some b:=by
 intro e1
 obtain⟨D,⟨es,clock,h0,_⟩,_⟩:=hm
 rcases h.2 with⟨rfl,_⟩|⟨g,cap,cur,rfl,_,hh,_⟩
 ·cases e1
 ·simp only[Value.ownBlock,Option.some.injEq]at e1
  subst e1
  rw[hh]at h0
  cases h0
theorem HashW.start{w0:World}{b hb:Nat}{cs:Value→Array Value}(hm:MapV Tryz.prog 9 nilS w0 b 0 (fun _=>none))(hbx:Blk w0 hb (cs nilS) 90):HashW w0 w0 b hb cs 0 (fun _=>none) (fun _=>[]) nilS []:=
 ⟨Keep.refl _ _,hm.lt,hbx.lt,hbx,hm,fun _=>World.ownsRow_nil _ _ _ _,World.ownsRow_nil _ _ _ _,fun _ _ _=>.inl rfl,fun _=>.inl rfl⟩
theorem HashW.stay{w0 w w':World}{b hb n:Nat}{cs:Value→Array Value}{f:List UInt8→Option Value}{g:List UInt8→List Nat}{vl:Value}{L:List Nat}(h:HashW w0 w b hb cs n f g vl L)(hbl:Below w.heap.size w w'):HashW w0 w' b hb cs n f g vl L:=
 ⟨h.keep.trans (m':=[]) (Keep.ofBelow hbl) (by simp),h.blt,h.hlt,(hbl.block _ h.box.lt).trans h.box,h.map.same (hbl.block _ h.map.lt),fun k=>own_stay (h.rows k) fun g hg=>hbl.block g ((h.rows k).lt g hg).2,own_stay h.loose fun g hg=>hbl.block g (h.loose.lt g hg).2,h.apart,h.apl⟩
theorem HashW.put{w0 w w1 w2:World}{b hb n:Nat}{cs:Value→Array Value}{f:List UInt8→Option Value}{g:List UInt8→List Nat}{vl v':Value}{L:List Nat}{key:List UInt8}{i:Nat}(h:HashW w0 w b hb cs n f g vl L)
 (h1:w1.ownsRow w0.heap.size 3 1 v' ((g key).length+1) (numsN (g key)++[.int .i64 (i:Int)]))(hg:w.grownBy w1 ((f key).getD nilS).ownBlock)(hat:v'.ownBlock=((f key).getD nilS).ownBlock∨v'.ownBlock=some w.heap.size)
 (hm:MapV Tryz.prog 9 nilS w2 b (n+1) (updV f key v'))(hg2:w1.grownBy w2 (some b)):HashW w0 w2 b hb cs (n+1) (updV f key v') (updG g key (g key++[i])) vl L:=by
 have hne:=own_not_map (h.rows key) h.map
 have hm1:=h.map.same (hg.block b h.map.lt (fun e=>hne e.symm))
 have hbx1:Blk w1 hb (cs vl) 90:=(hg.block hb h.box.lt (fun e=>own_ne (h.rows key) h.box (by decide) e.symm)).trans h.box
 have hbhb:hb≠b:=fun e=>by
  subst e
  obtain⟨D,⟨es,clock,h0,_⟩,_⟩:=h.map
  have:=h.box
  unfold Blk at this
  rw[this]at h0
  cases h0
 have hgv:∀x,(updV f key v' x).getD nilS=if x=key then v' else(f x).getD nilS:=fun x=>by
  unfold updV
  split<;>rfl
 have hrow:∀x,x≠key→w1.ownsRow w0.heap.size 3 1 ((f x).getD nilS) (g x).length (numsN (g x)):=fun x hx=>(h.rows x).kept hg (h.apart x key hx)
 have hloose1:=h.loose.kept hg (apart_swap (h.apl key))
 refine⟨(h.keep.grown hg (fun k hk hlt=>?_)).grown hg2 (fun k hk _=>?_),h.blt,h.hlt,(hg2.block hb hbx1.lt (fun e=>hbhb (by injection e))).trans hbx1,hm,fun x=>?_,?_,fun x y hxy=>?_,fun x=>?_⟩
 ·have:=((h.rows key).lt k hk).1
  omega
 ·injection hk with hk
  subst hk
  simp
 ·rw[hgv]
  unfold updG
  by_cases hx:x=key
  ·rw[if_pos hx,if_pos hx,List.length_append,numsN_snoc]
   exact h1.kept hg2 (.inr (own_not_map h1 hm1))
  ·rw[if_neg hx,if_neg hx]
   exact(hrow x hx).kept hg2 (.inr (own_not_map (hrow x hx) hm1))
 ·exact hloose1.kept hg2 (.inr (own_not_map hloose1 hm1))
 ·rw[hgv,hgv]
  by_cases hx:x=key
  ·rw[if_pos hx,if_neg (fun e=>hxy (hx.trans e.symm))]
   exact apart_new (h.apart key y (fun e=>hxy (hx.trans e))) (h.rows y) hat
  ·rw[if_neg hx]
   by_cases hy:y=key
   ·rw[if_pos hy]
    exact apart_swap (apart_new (apart_swap (h.apart x key hx)) (h.rows x) hat)
   ·rw[if_neg hy]
    exact h.apart x y hxy
 ·rw[hgv]
  by_cases hx:x=key
  ·rw[if_pos hx]
   exact apart_new (h.apl key) h.loose hat
  ·rw[if_neg hx]
   exact h.apl x
theorem HashW.push{w0 w w1:World}{b hb n:Nat}{cs:Value→Array Value}{f:List UInt8→Option Value}{g:List UInt8→List Nat}{vl v':Value}{L:List Nat}{i:Nat}(h:HashW w0 w b hb cs n f g vl L)(a:Addr)(ha:a=⟨hb,5,none⟩)(hcs:∀u u',(cs u).setIfInBounds 5 u'=cs u')
 (h1:w1.ownsRow w0.heap.size 3 1 v' (L.length+1) (numsN L++[.int .i64 (i:Int)]))(hg:w.grownBy w1 vl.ownBlock)(hat:v'.ownBlock=vl.ownBlock∨v'.ownBlock=some w.heap.size):
 HashW w0 (w1.setCell a v') b hb cs n f g v' (L++[i]):=by
 subst ha
 have hne:=own_not_map h.loose h.map
 have hbx1:Blk w1 hb (cs vl) 90:=(hg.block hb h.box.lt (fun e=>own_ne h.loose h.box (by decide) e.symm)).trans h.box
 have hm1:=h.map.same (hg.block b h.map.lt (fun e=>hne e.symm))
 have hbhb:b≠hb:=fun e=>by
  subst e
  obtain⟨D,⟨es,clock,h0,_⟩,_⟩:=h.map
  have:=h.box
  unfold Blk at this
  rw[this]at h0
  cases h0
 have hb2:=hbx1.set 5 v'
 rw[hcs]at hb2
 refine⟨(h.keep.grown hg (fun k hk hlt=>?_)).setCell (p:=⟨hb,5,none⟩) (fun _=>by simp) v',h.blt,h.hlt,hb2,hm1.same (Below.heap_setCell _ _ _ b (by simpa using hbhb)),fun x=>?_,?_,h.apart,fun x=>?_⟩
 ·have:=(h.loose.lt k hk).1
  omega
 ·exact own_set ((h.rows x).kept hg (h.apl x)) hbx1 (by decide) 5 v'
 ·rw[List.length_append,numsN_snoc]
  exact own_set h1 hbx1 (by decide) 5 v'
 ·exact apart_swap (apart_new (apart_swap (h.apl x)) (h.rows x) hat)
theorem put_any(w0 w:World)(b hb n:Nat)(cs:Value→Array Value)(f:List UInt8→Option Value)(g:List UInt8→List Nat)(vl:Value)(L:List Nat)(h:HashW w0 w b hb cs n f g vl L)(key:ByteArray)(hks:key.size≤maxLen)(i:Nat)(hn:n≤1048576)(hgl:(g key.data.toList).length≤1048576):
 Calls Tryz.prog 47 #[.map (some b),.string key,.int .i64 (i:Int)] w fun e w'=>e=.returned (.tuple #[])∧∃v',HashW w0 w' b hb cs (n+1) (updV f key.data.toList v') (updG g key.data.toList (g key.data.toList++[i])) vl L:=by
 obtain⟨i1,hi1,hy0,hy1,hy2⟩:=info_parts infoInt
 obtain⟨fv,hfv⟩:∃fv,f key.data.toList=fv:=⟨_,rfl⟩
 have hrow:=h.rows key.data.toList
 rw[hfv]at hrow
 obtain⟨ao,ca,hvf⟩:=own_form4x hrow
 have hws:w0.heap.size≤w.heap.size:=h.keep.size
 have hzv:∀W,(zeroValue 52).run Tryz.prog W=.ok nilS W:=fun W=>by kernel_rfl
 rw[hvf]at hrow
 replace h:=Hd h
 replace hfv:=Hd hfv
 replace hvf:=Hd hvf
 replace hi1:=Hd hi1
 replace hy0:=Hd hy0
 replace hy1:=Hd hy1
 replace hy2:=Hd hy2
 go_enter Tryz.func47,Tryz.ntmps47
 go_wp2_with (first|(at_lookup;refine wpList_mapV Tryz.underlying88 Tryz.underlying9 _ (hzv _) rfl _ _ rfl b n f rfl h.out.map key hks rfl fv hfv.out ?_;rw[hvf.out])|(at_builtin;refine wpList_append_own_at _ rfl _ _ 52 rfl w0.heap.size 3 i1 (.int .i64 0) 1 8 Tryz.underlying52 hi1.out hy0.out hy1.out hy2.out rfl (by decide) _ (g key.data.toList).length (numsN (g key.data.toList)) rfl (hrow.alloc _) _ 1 _ [.int .i64 (i:Int)] rfl rfl (news_b _ _ _) ?qa ?qb ?qc ?qd ?qe))
 case qa=>simp[Value.oneCell']
 case qb=>simp only[maxLen];omega
 case qc=>omega
 case qd=>rw[World.size_alloc];omega
 case qe=>
  intro v' w5 h1 h2 _ hat
  have hal:Below w.heap.size w (w.alloc (.cells #[.int .i64 (i:Int)] 3)):=(Below.refl _ _).alloc (Nat.le_refl _) _
  have hA:=h.out.stay hal
  have hv0:((f key.data.toList).getD nilS).ownBlock=(Value.slice ao (g key.data.toList).length ca).ownBlock:=by rw[hfv.out,hvf.out]
  have hm5:=Hd (hA.map.same (h2.block b hA.map.lt (fun e=>own_not_map (hA.rows key.data.toList) hA.map (by rw[hv0];exact e.symm))))
  have hput:=Hd (fun w6 hm6 hg6=>hA.put (key:=key.data.toList) (i:=i) (v':=v') (w1:=w5) (w2:=w6) h1 (by rw[hv0];exact h2) (by rw[hv0,World.size_alloc];exact hat) hm6 hg6)
  clear h1 h2 hat hal hA hv0 hrow
  go_wp2_with (at_mapUpdate;refine wpList_mapV_put Tryz.underlying88 Tryz.underlying9 _ rfl _ _ _ rfl b n f rfl hm5.out (by unfold maxLen;omega) key hks v' rfl rfl ?pu)
  case pu=>
   intro w6 hm6 hg6
   have hfin:=Hd (hput.out w6 hm6 hg6)
   clear hput hm5 hm6 hg6
   go_wp2
   go_end0
   exact⟨rfl,v',hfin.out⟩
open hyp (RowA stay_of_below)
def cellsJ(r:List V)(ks:List Nat):List V:=ks.map fun k=>r.getD k nullV
def keyJ(r:List V)(ks:List Nat):Option (List UInt8):=if(cellsJ r ks).any isN=true then none else some (encL (cellsJ r ks))
theorem cellsJ_at{r:List V}{ks:List Nat}{j:Nat}(h:j<ks.length)(hk:ks[j]<r.length):∃h2:j<(cellsJ r ks).length,(cellsJ r ks)[j]=r[ks[j]]:=by
 refine⟨by unfold cellsJ;simpa using h,?_⟩
 unfold cellsJ
 rw[List.getElem_map,List.getD_eq_getElem?_getD,List.getElem?_eq_getElem hk]
 rfl
theorem keyJ_any(N:Nat)(hN:N≤9223372036854775807)(w:World)(hE:Env w)(s va:Value)(l:List V)(ks:List Nat)(hs:LA w N s l)(hva:RowA w w.heap.size va (numsN ks))(hks:∀k∈ks,k<l.length)(hm:∀v∈l,mayV v=true)(hkl:ks.length≤1048576)(hlen:(encL (cellsJ l ks)).length≤10000000):
 Calls Tryz.prog 46 #[s,va] w fun e w'=>e=.returned (.tuple #[.string ⟨((keyJ l ks).getD []).toArray⟩,.bool (keyJ l ks).isSome])∧Below w.heap.size w w':=by
 obtain⟨i0,hi,hz0,hz1,hz2⟩:=info_parts Tryz.infoB
 replace hi:=Hd hi
 replace hz0:=Hd hz0
 replace hz1:=Hd hz1
 replace hz2:=Hd hz2
 obtain⟨ao,cap,rfl⟩:=hs.form6
 obtain⟨ao2,cap2,rfl,-,hat⟩:=hva.form
 have hNl:=(hs.elems _ _ _ rfl).1
 rw[numsN_length]
 replace hat:∀j (hj:j<ks.length),∃b off,ao2=some ⟨b,off,none⟩∧b<w.heap.size∧w.cell? ⟨b,off+j,none⟩=some (.int .i64 (ks[j]:Int)):=fun j hj=>by
  obtain⟨b,off,e1,e2,e3⟩:=hat j (by rw[numsN_length];exact hj)
  exact⟨b,off,e1,e2,by rw[e3];simp[numsN]⟩
 have hli:(l.length:Int)≤9223372036854775807:=by omega
 have hcl:(cellsJ l ks).length=ks.length:=by unfold cellsJ;rw[List.length_map]
 have ha:=Hd hs
 replace hE:=Hd hE
 replace hm:=Hd hm
 replace hks:=Hd hks
 replace hat:=Hd hat
 obtain⟨kj,hkj⟩:∃kj,keyJ l ks=kj:=⟨_,rfl⟩
 rw[hkj]
 replace hkj:=Hd hkj
 clear hs hva
 go_enter Tryz.func46,Tryz.ntmps46
 go_wp2
 go_loopw [6,13] (fun o i wr=>∃k:Nat,k≤ks.length∧i=.int .i64 (k:Int)∧Hid (∀v∈(cellsJ l ks).take k,isN v=false)∧Hid (val.BW w w.heap.size o (encL ((cellsJ l ks).take k)) wr)) (fun _ i _=>ks.length-(intOf i).toNat)
 case atStart=>exact⟨0,by omega,rfl,Hd (fun v hv=>by simp at hv),Hd (val.BW.start w)⟩
 case round =>
  obtain⟨k,hk,rfl,hnn,hW⟩:=hrel
  obtain⟨w0,rfl⟩:∃w0:World,w0=wr:=⟨_,rfl⟩
  by_cases hlt:k<ks.length
  ·have hki:(k:Int)<(ks.length:Int):=by omega
   have hk1:=Hd (show k+1≤ks.length from hlt)
   obtain⟨bk,ok,rfl,hbk,hck⟩:=hat.out k hlt
   replace hck:=sB hW.out.below hck
   have hkr:=hks.out _ (List.getElem_mem hlt)
   obtain⟨hkc,hcv⟩:=cellsJ_at hlt hkr
   obtain⟨b1,off,k1,bo,n1,t1,x1,l1,aoE,capE,rfl,he,hr,hok,hsl⟩:=la_at (ha.out.stay hW.out.below) (ks[k]'hlt) hkr
   obtain⟨hl1,hl2⟩:=encV_of hkc
   have htk:=List.take_succ_eq_append_getElem hkc
   have hmv:mayV (.mk k1 bo n1 t1 x1 l1)=true:=(congrArg mayV he).symm.trans (hm.out _ (List.getElem_mem hkr))
   have hmem:=List.getElem_mem hkc
   have hcv2:(cellsJ l ks)[k]'hkc=.mk k1 bo n1 t1 x1 l1:=hcv.trans he
   rw[hcv2]at hl2 htk hmem
   have hne:=encV_ne (.mk k1 bo n1 t1 x1 l1)
   have hlv:(encV (.mk k1 bo n1 t1 x1 l1)).length≤10000000:=by rw[hl2,List.length_append]at hl1;omega
   have hlk:(encL ((cellsJ l ks).take k)).length≤10000000:=by rw[hl2,List.length_append]at hl1;omega
   obtain⟨q,hq⟩:∃q,(ks[k]'hlt)=q:=⟨_,rfl⟩
   rw[hq]at hck hr hkr
   have hqi:(q:Int)<(l.length:Int):=by omega
   obtain⟨x0,x1a,x2,x3,x4,x5⟩:=hr.six
   have hen:=encode_call N hN w0 (hE.out.below hW.out.below) k1 bo n1 hok.1 hok.2.1 t1 x1 _ l1 hsl hok.2.2.1 hok.2.2.2 hlv
   unfold encR at hen
   rw[hmv]at hen
   simp only[if_true]at hen
   unfold agg6 at hen
   replace hen:=Hd hen
   replace htk:=Hd htk
   replace hmem:=Hd hmem
   replace hl2:=Hd hl2
   replace hq:=Hd hq
   by_cases hz:k1=0
   ·subst hz
    have hkn:Hid (kj=none):=Hd (by
     rw[←hkj.out]
     unfold keyJ
     rw[if_pos]
     rw[List.any_eq_true]
     exact⟨_,hmem.out,rfl⟩)
    have hfin:=Hd hW.out.below
    clear hen hl2 htk hmem hr he hsl hmv hok hcv hcv2
    go_wp2
    go_ret2
    exact⟨by rw[hkn.out];rfl,hfin.out⟩
   ·have hzb:(k1==0)=false:=beq_eq_false_iff_ne.2 hz
    have hnn2:Hid (∀v∈(cellsJ l ks).take (k+1),isN v=false):=Hd (fun v hv=>by
     rw[htk.out]at hv
     rcases List.mem_append.1 hv with h|h
     ·exact hnn.out v h
     ·obtain rfl:=List.mem_singleton.1 h
      exact decide_eq_false hz)
    generalize encV (.mk k1 bo n1 t1 x1 l1)=ev at *
    generalize hE2:encL ((cellsJ l ks).take (k+1))=E2 at *
    replace hE2:=Hd hE2
    generalize encL ((cellsJ l ks).take k)=E1 at *
    clear hr he hsl hmv hok hcv hcv2 hmem htk
    go_wp2_with fail
    refine hen.out.mono ?_
    rintro e w5 ⟨v5,rfl,hB5⟩
    have hW5:=hW.out.on hW.out.below.size hB5.below
    obtain⟨g5,c5,rfl,hnews⟩:∃g c,v5=.slice (some ⟨g,0,none⟩) ev.length c∧∀j u,(val.bytesV ev)[j]? = some u→w5.cell? ((⟨g,0,none⟩:Addr).add j)=some u:=by
     rcases hB5.own.2 with⟨hv,hn⟩|⟨g,c,cur,hv,_⟩
     ·omega
     ·subst hv
      exact⟨g,c,rfl,hB5.own.cells rfl⟩
    have hown:=hW5.own
    have hb5:=hW5.below.size
    have hnl:(val.bytesV ev).length=ev.length * 1:=by simp[val.bytesV]
    have hone:∀u∈val.bytesV ev,u.oneCell'=true:=fun u hu=>by obtain⟨x,-,rfl⟩:=List.mem_map.1 hu;rfl
    replace hW5:=Hd hW5
    clear hW hen hB5
    go_wp2_with (at_builtin;refine wpList_append_own _ rfl _ _ 108 rfl w.heap.size 5 i0 (.int .u8 0) 1 1 Tryz.underlying108 hi.out hz0.out hz1.out hz2.out rfl (by decide) u6 E1.length (val.bytesV E1) rfl hown ⟨g5,0,none⟩ ev.length c5 (val.bytesV ev) rfl hnl hnews hone ?ka ?kb hb5 ?kc)
    case ka=>simp only[maxLen];omega
    case kb=>omega
    case kc=>
     intro v7 w7 h1 h2 _
     have h7:=hW5.out.grown0 hb5 h1 h2
     rw[←hl2.out]at h7
     replace h7:=Hd h7
     clear h1 h2 hown hnews hW5
     go_wp2
     go_roundw
     case rel=>exact⟨k+1,hk1.out,by go_num,hnn2,by rw[hE2.out];exact h7⟩
     case measure=>have:=hk1.out;simp[intOf];omega
  ·have hki:¬(k:Int)<(ks.length:Int):=by omega
   obtain rfl:k=ks.length:=by omega
   rw[List.take_of_length_le (by omega)]at hW hnn
   have hks2:Hid (kj=some (encL (cellsJ l ks))):=Hd (by
    rw[←hkj.out]
    unfold keyJ
    rw[if_neg]
    rw[List.any_eq_true]
    rintro⟨v,hv,h⟩
    rw[hnn.out v hv]at h
    cases h)
   have hcv:=conv_own hW.out.own
   go_wp2
   go_ret2
   exact⟨by rw[hks2.out];rfl,hW.out.below⟩
def gK(rows:List (List V))(ks:List Nat)(m:Nat):List UInt8→List Nat:=fun k=>(List.range m).filter fun i=>decide (keyJ (rows.getD i []) ks=some k)
def lK(rows:List (List V))(ks:List Nat)(m:Nat):List Nat:=(List.range m).filter fun i=>(keyJ (rows.getD i []) ks).isNone
theorem gK_len(rows:List (List V))(ks:List Nat)(m:Nat)(k:List UInt8):(gK rows ks m k).length≤m:=by
 unfold gK
 exact Nat.le_trans (List.length_filter_le _ _) (by simp)
theorem lK_len(rows:List (List V))(ks:List Nat)(m:Nat):(lK rows ks m).length≤m:=by
 unfold lK
 exact Nat.le_trans (List.length_filter_le _ _) (by simp)
theorem gK_yes{rows:List (List V)}{ks:List Nat}{m:Nat}(h:m<rows.length){k:List UInt8}(hk:keyJ rows[m] ks=some k):gK rows ks (m+1)=updG (gK rows ks m) k (gK rows ks m k++[m])∧lK rows ks (m+1)=lK rows ks m:=by
 have e:rows.getD m []=rows[m]:=by simp[h]
 constructor
 ·funext x
  unfold updG gK
  rw[List.range_succ,List.filter_append]
  by_cases hx:x=k
  ·rw[if_pos hx,hx]
   congr 1
   rw[List.filter_cons_of_pos (by rw[e,hk];simp),List.filter_nil]
  ·rw[if_neg hx,List.filter_cons_of_neg (by rw[e,hk];simpa using fun e=>hx e.symm),List.filter_nil,List.append_nil]
 ·unfold lK
  rw[List.range_succ,List.filter_append,List.filter_cons_of_neg (by rw[e,hk];simp),List.filter_nil,List.append_nil]
theorem gK_no{rows:List (List V)}{ks:List Nat}{m:Nat}(h:m<rows.length)(hk:keyJ rows[m] ks=none):gK rows ks (m+1)=gK rows ks m∧lK rows ks (m+1)=lK rows ks m++[m]:=by
 have e:rows.getD m []=rows[m]:=by simp[h]
 constructor
 ·funext x
  unfold gK
  rw[List.range_succ,List.filter_append,List.filter_cons_of_neg (by rw[e,hk];simp),List.filter_nil,List.append_nil]
 ·unfold lK
  rw[List.range_succ,List.filter_append,List.filter_cons_of_pos (by rw[e,hk];simp),List.filter_nil]
theorem keyJ_len{r:List V}{ks:List Nat}{k:List UInt8}(h:keyJ r ks=some k):k=encL (cellsJ r ks):=by
 unfold keyJ at h
 split at h
 ·cases h
 ·injection h with h
  exact h.symm
def HashedP(w:World)(B:Tab)(ks:List Nat)(an ap:Option Addr)(na cn np cp:Nat)(vs vb:Value)(e:Ending)(w':World):Prop:=
 ∃(w0:World) (b0 hb n:Nat) (f:List UInt8→Option Value) (vl vv rv:Value),e=.returned (.pointer (some ⟨hb,0,none⟩))∧vb=.agg #[vv,rv]∧Below w.heap.size w w'∧w.heap.size≤b0∧w.heap.size≤hb∧w.heap.size≤w0.heap.size ∧
  HashW w0 w' b0 hb (fun vl=>#[.slice an na cn,.slice ap np cp,vs,rv,.map (some b0),vl]) n f (gK B.rows ks B.rows.length) vl (lK B.rows ks B.rows.length)
theorem hashed_any(N:Nat)(hN:N≤1048576)(w:World)(hE:Env w)(vb vs:Value)(A B:Tab)(an ap:Option Addr)(na cn np cp:Nat)(hB:TabA w N vb B)(hvs:PairR w vs (shK A.vars B.vars B.vars.length))(mb:mayT B=true)(hr:B.rows.length≤1048575)(hk:∀r∈B.rows,(encL (cellsJ r ((comN A.vars B.vars).map fun x=>B.vars.idxOf x))).length≤10000000):
 Calls Tryz.prog 21 #[.agg #[.slice an na cn,.slice ap np cp,vs],vb] w fun e w'=>HashedP w B ((comN A.vars B.vars).map fun x=>B.vars.idxOf x) an ap na cn np cp vs vb e w':=by
 obtain⟨vv2,rv2,rfl,hV2,hR2⟩:=hB.ex
 obtain⟨av2,cv2,rfl,-⟩:=hV2.form
 obtain⟨ar2,cr2,rfl,-,hrc⟩:=hR2.form
 obtain⟨asl,csl,hvse,-⟩:=id hvs
 subst hvse
 obtain⟨i1,hi1,hy0,hy1,hy2⟩:=info_parts infoInt
 replace hi1:=Hd hi1
 replace hy0:=Hd hy0
 replace hy1:=Hd hy1
 replace hy2:=Hd hy2
 obtain⟨hnB,hrB⟩:=may_rows mb
 obtain⟨hB64,-,hdB⟩:=names_parts hnB
 obtain⟨ks,hks⟩:∃ks,(comN A.vars B.vars).map (fun x=>B.vars.idxOf x)=ks:=⟨_,rfl⟩
 have hksl:ks.length≤64:=by rw[←hks,List.length_map];exact Nat.le_trans (com_len _ _) hB64
 have hksi:∀k∈ks,k<B.vars.length:=fun k hk=>by
  rw[←hks]at hk
  obtain⟨x,hx,rfl⟩:=List.mem_map.1 hk
  exact List.idxOf_lt_length_of_mem (mem_com.1 hx).1
 rw[hks]at hk ⊢
 have hal:Below w.heap.size w ((w.alloc (.cells #[.slice an na cn,.slice ap np cp,.slice asl (shK A.vars B.vars B.vars.length).length csl] 55)).alloc (.cells #[.slice av2 B.vars.length cv2,.slice ar2 B.rows.length cr2] 25)):=
  ((Below.refl _ _).alloc (Nat.le_refl _) _).alloc (by rw[World.size_alloc];omega) _
 have hpr:=sh_all (A:=A.vars) hdB
 have hprl:(shK A.vars B.vars B.vars.length).length≤1000000:=Nat.le_trans (shK_len _ _ _) (by omega)
 have hpr2:(shK A.vars B.vars B.vars.length).map (·.2)=ks:=by rw[hpr,List.map_map,←hks];rfl
 have hqp:=(Blk.new w #[.slice an na cn,.slice ap np cp,.slice asl (shK A.vars B.vars B.vars.length).length csl] 55).alloc (.cells #[.slice av2 B.vars.length cv2,.slice ar2 B.rows.length cr2] 25)
 have hqt:=Blk.new (w.alloc (.cells #[.slice an na cn,.slice ap np cp,.slice asl (shK A.vars B.vars B.vars.length).length csl] 55)) #[.slice av2 B.vars.length cv2,.slice ar2 B.rows.length cr2] 25
 rw[World.size_alloc]at hqt
 generalize (shK A.vars B.vars B.vars.length)=pr at *
 generalize hw1:(w.alloc (.cells #[.slice an na cn,.slice ap np cp,.slice asl pr.length csl] 55)).alloc (.cells #[.slice av2 B.vars.length cv2,.slice ar2 B.rows.length cr2] 25)=w1 at *
 have hmm:(Instr.makeMap 88 none).run Tryz.prog w1=.ok (.map (some w1.heap.size)) (w1.alloc (.map #[] 0)):=rfl
 have hM0:MapV Tryz.prog 9 nilS (w1.alloc (.map #[] 0)) w1.heap.size 0 (fun _=>none):=MapV.made w1
 have hal2:Below w1.heap.size w1 ((w1.alloc (.map #[] 0)).alloc (.cells #[.slice an na cn,.slice ap np cp,.slice asl pr.length csl,.slice ar2 B.rows.length cr2,.map (some w1.heap.size),.slice none 0 0] 90)):=((Below.refl _ _).alloc (Nat.le_refl _) _).alloc (by rw[World.size_alloc];omega) _
 have hM1:=hM0.same (w':=(w1.alloc (.map #[] 0)).alloc (.cells #[.slice an na cn,.slice ap np cp,.slice asl pr.length csl,.slice ar2 B.rows.length cr2,.map (some w1.heap.size),.slice none 0 0] 90)) (Below.heap_alloc _ _ _ (by rw[World.size_alloc];omega))
 have hbx:=Blk.new (w1.alloc (.map #[] 0)) #[.slice an na cn,.slice ap np cp,.slice asl pr.length csl,.slice ar2 B.rows.length cr2,.map (some w1.heap.size),.slice none 0 0] 90
 rw[World.size_alloc]at hbx
 have cS:=Hd (fun W (h:Below w.heap.size w W)=>sides_any W pr (.slice an na cn) (.slice ap np cp) (.slice asl pr.length csl) (PairR.stay hvs h) hprl ⟨_,_,_,rfl⟩ ⟨_,_,_,rfl⟩)
 have x0:=hqp.cell 0 rfl
 have x1:=hqp.cell 1 rfl
 have x2:=hqp.cell 2 rfl
 have y1:=hqt.cell 1 rfl
 have hs1:w.heap.size≤w1.heap.size:=hal.size
 replace hbx:=Hd hbx
 replace hM1:=Hd hM1
 replace hqp:=Hd hqp
 replace hqt:=Hd hqt
 replace hw1:=Hd hw1
 replace hpr:=Hd hpr
 replace hpr2:=Hd hpr2
 replace hrc:=Hd hrc
 replace hrB:=Hd hrB
 replace hk:=Hd hk
 replace hksi:=Hd hksi
 have hEw:=Hd hE
 have hB12:=Hd (hal.trans (hal2.mono hal.size))
 replace hal:=Hd hal
 have hal2h:=Hd hal2
 clear hE hB hV2 hR2 hM0 hal2
 go_enter Tryz.func21,Tryz.ntmps21
 go_upto_region 1 with fail
 rw[hw1.out]
 go_upto_region 2 with fail
 have x0':=sB hal2h.out x0
 have x1':=sB hal2h.out x1
 have x2':=sB hal2h.out x2
 have y1':=sB hal2h.out y1
 have hs3:w1.heap.size+1<((w1.alloc (.map #[] 0)).alloc (.cells #[.slice an na cn,.slice ap np cp,.slice asl pr.length csl,.slice ar2 B.rows.length cr2,.map (some w1.heap.size),.slice none 0 0] 90)).heap.size:=by rw[World.size_alloc,World.size_alloc];omega
 obtain⟨b0,hb0⟩:∃b0,w1.heap.size=b0:=⟨_,rfl⟩
 rw[hb0]at hbx hM1 hB12 hal2h hs1 hs3 x0' x1' x2' y1'
 try rw[hb0]
 replace hb0:=Hd hb0
 clear x0 x1 x2 y1 hmm
 generalize ((w1.alloc (.map #[] 0)).alloc (.cells #[.slice an na cn,.slice ap np cp,.slice asl pr.length csl,.slice ar2 B.rows.length cr2,.map (some b0),.slice none 0 0] 90))=w3 at *
 have cS3:=Hd (cS.out w3 hB12.out)
 clear cS hal2h
 go_wp2_with fail
 refine cS3.out.mono ?_
 rintro e w0 ⟨va,vbp,rfl,hT⟩
 have hb30:=hT.below
 have own7:Hid (w0.ownsRow w3.heap.size 3 1 vbp ks.length (numsN ks)):=Hd (by have:=hT.r;rw[hpr2.out]at this;exact this)
 obtain⟨a7,c7,h7⟩:=own_form4x own7.out
 obtain⟨a6,c6,h6⟩:=own_form4x hT.l
 subst h7
 subst h6
 have hbx0:Blk w0 (b0+1) _ _:=(hb30.block _ hbx.out.lt).trans hbx.out
 have hM2:=hM1.out.same (hb30.block _ hM1.out.lt)
 have hH0:Hid (HashW w0 w0 b0 (b0+1) (fun vl:Value=>#[.slice an na cn,.slice ap np cp,.slice asl pr.length csl,.slice ar2 B.rows.length cr2,.map (some b0),vl]) 0 (fun _=>none) (gK B.rows ks 0) (.slice none 0 0) (lK B.rows ks 0)):=Hd (by
  have e1:gK B.rows ks 0=fun _=>[]:=by funext x;simp[gK]
  have e2:lK B.rows ks 0=[]:=by simp[lK]
  rw[e1,e2]
  exact HashW.start hM2 hbx0)
 have hB0:=Hd (hB12.out.trans (hb30.mono hB12.out.size))
 have y1:=sB hb30 y1'
 have hs0:=hb30.size
 have hws:w.heap.size≤b0:=hs1
 clear x0' x1' x2' y1' cS3 hT hbx hM1 hbx0 hM2 hb30
 go_wp2
 go_loopw [26] (fun i wr=>∃(k n:Nat) (f:List UInt8→Option Value) (vl:Value),k≤B.rows.length∧n≤k∧i=.int .i64 (k:Int)∧Hid (HashW w0 wr b0 (b0+1) (fun vl:Value=>#[.slice an na cn,.slice ap np cp,.slice asl pr.length csl,.slice ar2 B.rows.length cr2,.map (some b0),vl]) n f (gK B.rows ks k) vl (lK B.rows ks k))) (fun i _=>B.rows.length-(intOf i).toNat)
 case atStart=>exact⟨0,0,_,_,Nat.zero_le _,Nat.le_refl _,rfl,hH0⟩
 case round=>
  clear hH0 y1
  obtain⟨k,n,f,vl,hk1,hnk,rfl,hH⟩:=hrel
  have hBr:=hB0.out.trans ((hH.out.keep.under w.heap.size (by omega) (by simp;omega)).mono (Nat.le_refl _))
  by_cases hlt:k<B.rows.length
  ·have hki:(k:Int)<(B.rows.length:Int):=by omega
   have hk2:=Hd (show k+1≤B.rows.length from hlt)
   obtain⟨br,orr,a,c,rfl,-,hcell,hla⟩:=hrc.out k hlt
   replace hcell:=sB hBr hcell
   replace hla:=hla.stay hBr
   have hrw:=hrB.out _ (List.getElem_mem hlt)
   have hrl:=row_len hrw
   have hrm:=row_may hrw
   have hkb:=hk.out _ (List.getElem_mem hlt)
   have own7r:wr.ownsRow w3.heap.size 3 1 (.slice a7 ks.length c7) ks.length (numsN ks):=own_stay own7.out fun g hg=>hH.out.keep.block g (own7.out.lt g hg).2 (by
    have h9:=(own7.out.lt g hg).1
    simp only[List.mem_cons,List.not_mem_nil,or_false,not_or]
    exact⟨by omega,by omega⟩)
   have hat:RowA wr wr.heap.size (.slice a7 ks.length c7) (numsN ks):=own_row (by rw[numsN_length];exact own7r)
   have cK:=keyJ_any N (by omega) wr (hEw.out.below hBr) _ _ (B.rows[k]'hlt) ks hla hat (fun q hq=>by rw[hrl];exact hksi.out q hq) hrm (by omega) hkb
   have hyes:=fun K h=>gK_yes (ks:=ks) hlt (k:=K) h
   have hno:=gK_no (ks:=ks) hlt
   have hgl:=gK_len B.rows ks k
   have hll:=lK_len B.rows ks k
   have hkl:∀K,keyJ (B.rows[k]'hlt) ks=some K→K.length≤10000000:=fun K h=>by rw[keyJ_len h];exact hkb
   obtain⟨kj,hkj⟩:∃kj,keyJ (B.rows[k]'hlt) ks=kj:=⟨_,rfl⟩
   rw[hkj]at cK hyes hno hkl
   generalize hG2:gK B.rows ks (k+1)=G2 at *
   generalize hL2:lK B.rows ks (k+1)=L2 at *
   generalize gK B.rows ks k=G at *
   generalize lK B.rows ks k=L at *
   replace hG2:=Hd hG2
   replace hL2:=Hd hL2
   replace hkj:=Hd hkj
   generalize (B.rows[k]'hlt)=r at *
   have hbc:=hH.out.box
   replace cK:=Hd cK
   replace hBr:=Hd hBr
   clear hla hrw hrl hrm hkb own7r hat
   cases kj with
   | none =>
    obtain⟨e1,e2⟩:=hno rfl
    simp only[Option.getD_none,Option.isSome_none]at cK
    replace e1:=Hd e1
    replace e2:=Hd e2
    clear hyes hno hkl
    go_wp2_with fail
    refine cK.out.mono ?_
    rintro e w5 ⟨rfl,hb5⟩
    have hH5:=hH.out.stay hb5
    have hl5:=hH5.loose
    obtain⟨al,cl,hvl⟩:=own_form4x hl5
    subst hvl
    have hbx5:=hH5.box
    have z5:=hbx5.cell 5 rfl
    have hws5:w0.heap.size≤w5.heap.size:=hH5.keep.size
    replace hH5:=Hd hH5
    clear hbx5 hH hb5 cK hcell hbc
    go_wp2_with (at_builtin;refine wpList_append_own_at _ rfl _ _ 52 rfl w0.heap.size 3 i1 (.int .i64 0) 1 8 Tryz.underlying52 hi1.out hy0.out hy1.out hy2.out rfl (by decide) _ L.length (numsN L) rfl (hl5.alloc _) _ 1 _ [.int .i64 (k:Int)] rfl rfl (news_b _ _ _) ?qa ?qb ?qc ?qd ?qe)
    case qa=>simp[Value.oneCell']
    case qb=>simp only[maxLen];omega
    case qc=>omega
    case qd=>rw[World.size_alloc];omega
    case qe=>
     intro v' w6 h1 h2 _ hat
     have hal:Below w5.heap.size w5 (w5.alloc (.cells #[.int .i64 (k:Int)] 3)):=(Below.refl _ _).alloc (Nat.le_refl _) _
     have hA:=hH5.out.stay hal
     have hnx:=hA.push (i:=k) ⟨b0+1,5,none⟩ rfl (fun _ _=>rfl) h1 h2 (by rw[World.size_alloc];simpa using hat)
     have hbx6:Blk w6 (b0+1) _ _:=(h2.block (b0+1) hA.box.lt (fun e=>own_ne hA.loose hA.box (by decide) e.symm)).trans hA.box
     obtain⟨a9,c9,h9⟩:=own_form4x h1
     subst h9
     have g1:=hbx6.cell 5 rfl
     have g2:=hbx6.free 5
     rw[←e1.out,←e2.out]at hnx
     replace hnx:=Hd hnx
     clear h1 h2 hat hal hA hbx6 hl5 z5 hH5
     go_wp2
     go_roundw
     case rel=>exact⟨k+1,n,f,_,hk2.out,by omega,by go_num,by rw[hG2.out,hL2.out];exact hnx⟩
     case measure=>have:=hk2.out;simp[intOf];omega
   | some K =>
    obtain⟨e1,e2⟩:=hyes K rfl
    have hK9:=hkl K rfl
    simp only[Option.getD_some,Option.isSome_some]at cK
    obtain⟨ky,hky⟩:∃ky:ByteArray,ky=⟨K.toArray⟩:=⟨_,rfl⟩
    have hkd:ky.data.toList=K:=by rw[hky]
    have hkz:ky.size≤maxLen:=by
     have:ky.size=K.length:=by rw[hky];simp[ByteArray.size]
     unfold maxLen;omega
    rw[←hky]at cK
    replace hky:=Hd hky
    rw[←hkd]at e1
    replace hkd:=Hd hkd
    replace e1:=Hd e1
    replace e2:=Hd e2
    clear hyes hno hkl
    go_wp2_with fail
    refine cK.out.mono ?_
    rintro e w5 ⟨rfl,hb5⟩
    have hH5:=hH.out.stay hb5
    have hbx5:=hH5.box
    have z4:=hbx5.cell 4 rfl
    have cP:=Hd (put_any w0 w5 b0 (b0+1) n _ f G vl L hH5 ky hkz k (by omega) (by have:=hgl ky.data.toList;omega))
    clear hbx5 hH hb5 cK hcell hbc hH5
    go_wp2_with fail
    refine cP.out.mono ?_
    rintro e w6 ⟨rfl,v',hH6⟩
    rw[←e1.out,←e2.out]at hH6
    replace hH6:=Hd hH6
    clear z4 cP
    go_wp2
    go_roundw
    case rel=>exact⟨k+1,n+1,_,vl,hk2.out,by omega,by go_num,by rw[hG2.out,hL2.out];exact hH6⟩
    case measure=>have:=hk2.out;simp[intOf];omega
  ·have hki:¬(k:Int)<(B.rows.length:Int):=by omega
   obtain rfl:k=B.rows.length:=by omega
   replace hBr:=Hd hBr
   go_wp2
   go_ret
   exact⟨w0,b0,b0+1,n,f,vl,_,_,rfl,rfl,hBr.out,by omega,by omega,by omega,hH.out⟩
end Go.Proofs.YtmpldjbdhbapbaaGreatDoor.tab
