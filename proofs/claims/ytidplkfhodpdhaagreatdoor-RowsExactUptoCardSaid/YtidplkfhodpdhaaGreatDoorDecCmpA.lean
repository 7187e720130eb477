/- Texts RtDistR, DecCmpA, one behind the other. -/
import Derived.Test.YtidplkfhodpdhaaGreatDoorRtB
import Derived.Test.YtidplkfhodpdhaaGreatDoorSortA
import Derived.ChangeKeysEq
set_option linter.unusedSimpArgs false
set_option linter.unusedVariables false
set_option maxRecDepth 100000
set_option maxHeartbeats 8000000
namespace Go.Proofs.YtidplkfhodpdhaaGreatDoor.tab
open Go.ChangeShapes Go.WideShapes Go.ChangeAt Go.RowKit kit dec val
open hyp (RowA TextsA CellsStay stay_of_below textsV textsV_length own_row OW)
theorem distF_key:∀(l:List (List V)) (seen:List (List UInt8)) (r:List V),r∈l→encL r∈seen∨∃x∈distF seen l,encL x=encL r
 | a :: l, seen, r, h => by
  rw[distF]
  rcases List.mem_cons.1 h with rfl|h
  ·by_cases hs:encL r∈seen
   ·exact .inl hs
   ·rw[if_neg hs]
    exact .inr ⟨r,by simp,rfl⟩
  ·by_cases hs:encL a∈seen
   ·rw[if_pos hs]
    exact distF_key l seen r h
   ·rw[if_neg hs]
    rcases distF_key l (encL a::seen) r h with h2|⟨x,h2,h3⟩
    ·rcases List.mem_cons.1 h2 with h2|h2
     ·exact .inr ⟨a,by simp,h2.symm⟩
     ·exact .inl h2
    ·exact .inr ⟨x,List.mem_cons_of_mem _ h2,h3⟩
def sameK(L:List (List V))(r:List V)(k:Nat):Bool:=(L.take k).any fun x=>sameL x r
theorem sameK_step{L:List (List V)}{r:List V}{k:Nat}(h:k<L.length)(h2:sameK L r k=false):sameK L r (k+1)=sameL L[k] r:=by
 unfold sameK at *
 rw[List.take_succ_eq_append_getElem h,List.any_append,h2]
 simp
theorem sameK_end{L:List (List V)}{r:List V}{k:Nat}(h:¬k<L.length∨sameK L r k=true):sameK L r k=L.any fun x=>sameL x r:=by
 unfold sameK at *
 rcases h with h|h
 ·rw[List.take_of_length_le (by omega)]
 ·rw[h]
  symm
  rw[List.any_eq_true]at *
  obtain⟨x,hx,h2⟩:=h
  exact⟨x,List.mem_of_mem_take hx,h2⟩
theorem dist_had{A:Tab}(mA:mayT A=true)(iA:in64T A){i:Nat}(h:i<A.rows.length):distK A (i+1)=if((distK A i).any fun x=>sameL x A.rows[i])=true then distK A i else distK A i++[A.rows[i]]:=by
 have hrow:=mayT_rows mA iA
 have hcell:=mayT_cells mA
 have hlen:∀r∈A.rows,r.length=A.vars.length:=fun r hr=>row_len (hrow r hr).1
 have hin:∀x∈distK A i,x∈A.rows:=fun x hx=>List.mem_of_mem_take (distF_mem _ _ x hx)
 rw[distK_step A h]
 by_cases hc:cntK (encL A.rows[i]) ((A.rows.map encL).take i)=0
 ·rw[if_pos hc,if_neg]
  rw[cnt_mem]at hc
  intro h2
  rw[List.any_eq_true]at h2
  obtain⟨x,hx,h3⟩:=h2
  rw[(sameL_iff _ _).1 h3]at hx
  apply hc
  rw[←List.map_take]
  exact List.mem_map.2 ⟨_,distF_mem _ _ _ hx,rfl⟩
 ·rw[if_neg hc,if_pos]
  rw[cnt_mem,Classical.not_not,←List.map_take]at hc
  obtain⟨r,hr,h2⟩:=List.mem_map.1 hc
  rcases distF_key (A.rows.take i) [] r hr with h3|⟨x,hx,h3⟩
  ·cases h3
  ·have hx2:=hin x hx
   have hi2:=List.getElem_mem h
   have e:x=A.rows[i]:=encRow_inj (hcell x hx2) (hcell _ hi2) (iA x hx2) (iA _ hi2) (by rw[hlen x hx2,hlen _ hi2]) (by rw[h3,h2])
   rw[List.any_eq_true]
   exact⟨x,hx,(sameL_iff _ _).2 e⟩
theorem rDist_any (N : Nat) (hN : N ≤ 1048576) (w0 w : World) (h0 : Below w0.heap.size w0 w) (va : Value) (A : Tab) (hA0 : TabA w0 N va A) (mA : mayT A = true) (iA : in64T A) (ra9 : A.rows.length ≤ 1000) :
 Calls Tryz.prog 30 #[va] w fun e w'=>∃v,e=.returned v∧TabS w0 w w' N v (distT A):=by
 obtain⟨vv,rv,rfl,hV0,hR0⟩:=hA0.ex
 obtain⟨av,cv,rfl,-⟩:=hV0.form
 obtain⟨ar,cr,rfl,-,hrc⟩:=hR0.form
 have hal:Below w.heap.size w ((w.alloc (.cells #[.slice av A.vars.length cv,.slice ar A.rows.length cr] 25)).alloc (.cells #[.slice none 0 0,.slice none 0 0] 25)):=((Below.refl _ _).alloc (Nat.le_refl _) _).alloc (by rw[World.size_alloc];omega) _
 have hq0:=(Blk.new w #[.slice av A.vars.length cv,.slice ar A.rows.length cr] 25).alloc (.cells #[.slice none 0 0,.slice none 0 0] 25)
 have hq2:=Blk.new (w.alloc (.cells #[.slice av A.vars.length cv,.slice ar A.rows.length cr] 25)) #[.slice none 0 0,.slice none 0 0] 25
 rw[World.size_alloc]at hq2
 obtain⟨wb,hw1⟩:∃w1,(w.alloc (.cells #[.slice av A.vars.length cv,.slice ar A.rows.length cr] 25)).alloc (.cells #[.slice none 0 0,.slice none 0 0] 25)=w1:=⟨_,rfl⟩
 have hs1:wb.heap.size=w.heap.size+2:=by rw[←hw1];simp
 rw[hw1]at hal hq0 hq2
 have hx0:=Hd (hq0.cell 0 rfl)
 have hx1:=Hd (hq0.cell 1 rfl)
 have hBw:=Hd hal
 have hB0w:=Hd (h0.trans (hal.mono h0.size))
 have h0h:=Hd h0
 have hw0s:=hB0w.out.size
 have hJ0:=Hd (JsW.start (w:=w) hB0w.out (w.heap.size+1) N (.slice av A.vars.length cv))
 rw[←distK_zero A]at hJ0
 have hRA:Hid (∀j (hj:j<A.rows.length),∃b off a c,ar=some ⟨b,off,none⟩∧wb.cell? ⟨b,off+j,none⟩=some (.slice a A.rows[j].length c)∧LA w0 N (.slice a A.rows[j].length c) A.rows[j]):=Hd fun j hj=>by
  obtain⟨b,off,a,c,h1,h2,h3,h4⟩:=hrc j hj
  exact⟨b,off,a,c,h1,sB hal (sB h0 h3),h4⟩
 have hz:Hid (distT A=⟨A.vars,distK A A.rows.length⟩):=Hd (distK_end A)
 have hstep:=Hd (fun i (h:i<A.rows.length)=>dist_had mA iA h)
 have hVh:=Hd hV0
 have x0:=hx0.out
 have t0:=hJ0.out.tb.cell 0 rfl
 have t1:=hJ0.out.tb.cell 1 rfl
 have x1':=sB hJ0.out.bl hx1.out
 have hq2b:=Hd hq2
 have hq2lt:=Hd hq2.lt
 replace hw1:=Hd hw1
 replace hs1:=Hd hs1
 clear hA0 hV0 hR0 hq0 hq2 mA iA hrc hal
 go_enter Tryz.func30,Tryz.ntmps30
 go_upto_region 1 with fail
 rw[hw1.out]
 go_upto_region 2 with fail
 generalize wb.alloc (.cells #[.slice av A.vars.length cv,.slice none 0 0] 25)=w3 at *
 clear x0
 go_wp2
 go_loopw [4] (fun i wr=>∃(k:Nat) (rv:Value),k≤A.rows.length∧i=.int .i64 (k:Int)∧Hid (JsW w0 w wb wr (w.heap.size+1) N (.slice av A.vars.length cv) rv (distK A k))) (fun i _=>A.rows.length-(intOf i).toNat)
 case atStart=>exact⟨0,_,Nat.zero_le _,rfl,hJ0⟩
 case round =>
  clear hJ0 x1' t0 t1
  obtain⟨i,rv,hi,rfl,hJ⟩:=hrel
  obtain⟨w4,rfl⟩:∃w4:World,w4=wr:=⟨_,rfl⟩
  have hbj:=hJ.out.bl
  have x1':=sB hbj hx1.out
  by_cases hlt:i<A.rows.length
  ·have hki : (i : Int) < (A.rows.length : Int) := by omega
   have hi1:=Hd (show i+1≤A.rows.length from hlt)
   obtain⟨b1,o1,a1,c1,rfl,hc1,hla1⟩:=hRA.out i hlt
   have hst:=hstep.out i hlt
   have hlen0:=distK_len A i
   have hlen:Hid ((distK A i).length+1≤1048576):=Hd (by omega)
   generalize distK A i=L1 at *
   generalize hL2:distK A (i+1)=L2 at *
   generalize (A.rows[i]'hlt)=r at *
   replace hL2:=Hd hL2
   replace hst:=Hd hst
   replace hc1:=Hd hc1
   replace hla1:=Hd hla1
   have hs0:sameK L1 r 0=false:=rfl
   replace hs0:=Hd hs0
   clear hbj
   go_wp2
   go_loopw [5,6] (fun v5 j wr=>∃(k:Nat) (g:Bool),k≤L1.length∧j=.int .i64 (k:Int)∧v5=.bool g∧Hid (sameK L1 r k=g)∧Hid (JsW w0 w wb wr (w.heap.size+1) N (.slice av A.vars.length cv) rv L1)) (fun _ j _=>L1.length-(intOf j).toNat)
   case atStart=>exact⟨0,false,Nat.zero_le _,rfl,rfl,hs0,hJ⟩
   case round =>
    clear hJ x1' hs0
    obtain⟨k,g,hk,rfl,rfl,hg,hJ⟩:=hrel
    obtain⟨w5,rfl⟩:∃w5:World,w5=wr:=⟨_,rfl⟩
    obtain⟨ao,cp,hrv⟩:=hJ.out.rj.form
    subst hrv
    have hbj:=hJ.out.bl
    have z1:=hJ.out.tb.cell 1 rfl
    have hcase:(k<L1.length∧g=false)∨(¬k<L1.length∨g=true):=by
     by_cases h:k<L1.length
     ·cases g
      ·exact .inl ⟨h,rfl⟩
      ·exact .inr (.inr rfl)
     ·exact .inr (.inl h)
    rcases hcase with⟨hlk,rfl⟩|hex
    ·have hkk:(k:Int)<(L1.length:Int):=by omega
     have hk1:=Hd (show k+1≤L1.length from hlk)
     have hnx:=sameK_step hlk hg.out
     have hdr0:Below w5.heap.size w5 w5.drew:=below_drewN (Below.refl _ _) 1
     have hdr:Below wb.heap.size wb w5.drew:=hbj.trans (hdr0.mono hbj.size)
     have hJd:=hJ.out.stay hdr0
     obtain⟨ao2,cp2,e2,-,hat⟩:=hJd.rj.read.form
     obtain⟨b3,o3,a3,c3,h3,hb3,hc3,hla3⟩:=hat k hlk
     injection e2 with e2a e2b e2c
     subst e2a h3
     have cE:=Hd (eqRow_call N (SizeOf.sizeOf L1[k]) (by omega) (rsame_all N (by omega) _) w5.drew _ _ (L1[k]'hlk) r (Nat.le_refl _) hla3 (hla1.out.stay (hB0w.out.trans (hdr.mono hB0w.out.size))))
     have hS0:Blk w5.drew wb.heap.size #[.slice av A.vars.length cv,.slice (some ⟨b3,o3,none⟩) L1.length cp] 25∧Below wb.heap.size wb w5.drew∧w5.drew.cell? ⟨b3,o3+k,none⟩=some (.slice a3 (L1[k]'hlk).length c3):=⟨hJd.tb,hJd.bl,hc3⟩
     generalize hxk:(L1[k]'hlk)=x at *
     generalize sameL x r=g2 at *
     replace hnx:=Hd hnx
     replace hxk:=Hd hxk
     replace hJd:=Hd hJd
     have hbk:=hb3
     clear hJ hbj hla3 hat e2b e2c
     go_upto_region 9 with fail
     refine wp_region_held_drew (S:=fun V=>Blk V wb.heap.size #[.slice av A.vars.length cv,.slice (some ⟨b3,o3,none⟩) L1.length cp] 25∧Below wb.heap.size wb V∧V.cell? ⟨b3,o3+k,none⟩=some (.slice a3 x.length c3)) (by kernel_rfl) hS0 (fun hS=>?_)
     generalize w5.drew=V0 at *
     refine tkS [0,1,2,3,4,5,6,7,8,9] ?_
     iterate 10
      refine tkC ?_ rfl (fun w' hS=>?_) hS ?_
      rotate_left
      ·
       have z0:=hS.1.cell 0 rfl;have z1:=hS.1.cell 1 rfl;have p1:=sB hS.2.1 hx1.out;have p4:=sB hS.2.1 hc1.out;have p5:=hS.2.2
       go_simp
       try with_reducible rfl
     refine rdH 10 rfl (fun K hK=>?_)
     clear hS
     go_simp
     refine(cE.out).mono ?_
     rintro e w6 ⟨rfl,hb6⟩
     go_wp2_with fail
     refine hKo hK (⟨(hb6.block _ hS0.1.lt).trans hS0.1,hS0.2.1.trans (hb6.mono hS0.2.1.size),sB hb6 hS0.2.2⟩) (fun hS=>?_)
     clear hK K
     have hJ6:=Hd (hJd.out.stay hb6)
     refine tkH 11 ?_ rfl (fun w' hS=>?_) hS ?_
     rotate_left
     ·
      skip
      go_simp
      try with_reducible rfl
     refine wpAnyH_done (by kernel_rfl) ?_ _
     clear hS cE hb6 hdr hdr0 hJd hS0 hbk hb3 hc3 z1 hg
     go_wp2
     go_roundw
     case rel=>exact⟨k+1,g2,hk1.out,by go_num,rfl,hnx,hJ6⟩
     case measure=>have:=hk1.out;simp[intOf];omega
    ·have hend:=sameK_end (L:=L1) (r:=r) (k:=k) (by rw[hg.out];exact hex)
     rw[hg.out]at hend
     have hst2:=hst.out
     rw[←hend]at hst2
     replace hend:=Hd hend
     have x1':=sB hbj hx1.out
     cases g with
     | true =>
      rw[if_pos rfl]at hst2
      have hJn:Hid (JsW w0 w wb w5 (w.heap.size+1) N (.slice av A.vars.length cv) (.slice ao L1.length cp) L2):=Hd (by rw[hst2];exact hJ.out)
      replace hst2:=Hd hst2
      clear hg hst hJ hex hbj
      by_cases hlk:k<L1.length
      ·have hkk:(k:Int)<(L1.length:Int):=by omega
       go_wp2
       clear z1
       go_roundw
       case rel=>exact⟨i+1,_,hi1.out,by go_num,by rw[hL2.out];exact hJn⟩
       case measure=>have:=hi1.out;simp[intOf];omega
      ·have hkk:¬(k:Int)<(L1.length:Int):=by omega
       go_wp2
       clear z1
       go_roundw
       case rel=>exact⟨i+1,_,hi1.out,by go_num,by rw[hL2.out];exact hJn⟩
       case measure=>have:=hi1.out;simp[intOf];omega
     | false =>
      have hlk:¬k<L1.length:=by
       rcases hex with h|h
       ·exact h
       ·cases h
      have hkk:¬(k:Int)<(L1.length:Int):=by omega
      rw[if_neg (by decide)]at hst2
      replace hst2:=Hd hst2
      clear hg hst hex hbj
      go_upto_region 11 with fail
      clear z1
      have hal:Below w5.heap.size w5 w5.drew:=below_drewN (Below.refl _ _) 1
      have hJV:=hJ.out.stay hal
      have hS0:Blk w5.drew wb.heap.size #[.slice av A.vars.length cv,.slice ao L1.length cp] 25∧Below wb.heap.size wb w5.drew:=⟨hJV.tb,hJV.bl⟩
      refine wp_region_late [10] (S:=fun V=>Blk V wb.heap.size #[.slice av A.vars.length cv,.slice ao L1.length cp] 25∧Below wb.heap.size wb V) (by kernel_rfl) hS0 (fun hS=>?_)
      generalize w5.drew=V0 at *
      clear hS0 hal hJ x1'
      refine tlS [0,1,2,3,4,5,6] ?_
      iterate 7
       refine tlC ?_ rfl (fun w' hS=>?_) hS ?_
       rotate_left
       ·
        have z0:=hS.1.cell 0 rfl;have z1:=hS.1.cell 1 rfl;have p0:=sB hS.2 hx0.out;have p1:=sB hS.2 hx1.out;have p4:=sB hS.2 hc1.out
        go_simp
        try with_reducible rfl
      refine wpAnyL_ready (i:=7) (by kernel_rfl) rfl (fun K hK=>?_)
      clear hS
      go_simp
      go_wp2_with fail
      have hal8:=((Below.refl V0.heap.size V0).alloc (Nat.le_refl _) (.cells #[.slice a1 r.length c1] 37))
      have hJ8:=hJV.stay hal8
      have hn8:(V0.alloc (.cells #[.slice a1 r.length c1] 37)).cell? ⟨V0.heap.size,0,none⟩=some (.slice a1 r.length c1):=(Blk.new V0 #[.slice a1 r.length c1] 37).cell 0 rfl
      refine hKo hK ⟨hJ8.tb,hJ8.bl⟩ (fun hS=>?_)
      clear hK K hJV
      refine wpAnyL_ready (i:=8) (by kernel_rfl) rfl (fun K hK=>?_)
      clear hS
      refine wp_pushS (.tmp 42) (.tmp 48) rfl w0 (fun b=>b<w.heap.size∨b=w.heap.size+1∨b=wb.heap.size) N _ _ rfl hJ8.rj V0.heap.size r (.slice a1 r.length c1) rfl hn8 rfl (fun _=>False) (fun b hb=>hb.elim) (RobR.old hla1.out) ?d3 hlen.out ?d4
      case d3=>exact fun b hX=>by have h9:=hJ8.tb.lt;have:=hq2lt.out;omega
      intro v' w9 hR9 hg9 hat9
      obtain⟨ao9,cap9,hv9⟩:=hR9.form
      rw[List.length_append,List.length_singleton]at hv9
      subst hv9
      obtain⟨htb9,hbl9,hJ9⟩:=hJ8.next hw0s hat9 hR9 hg9
      refine hKo hK ⟨htb9,hbl9⟩ (fun hS=>?_)
      clear hK K hJ8 hn8 hR9 hg9 hal8
      refine tlH 9 ?_ rfl (fun w' hS=>?_) hS ?_
      rotate_left
      ·
       skip
       go_simp
       try with_reducible rfl
      refine wpAnyL_late (i:=10) (by kernel_rfl) rfl (by kernel_rfl) (fun K hK=>?_)
      clear hS
      have f1:=htb9.free 1
      have z0:=htb9.cell 0 rfl
      have z1:=htb9.cell 1 rfl
      rw[←hst2.out]at hJ9
      replace hJ9:=Hd hJ9
      go_simp
      go_wp2_with fail
      refine hK.out _ _ ?_
      clear hK K f1 htb9 z0 z1
      try simp only[List.getElem_toArray,List.getElem_cons_succ,List.getElem_cons_zero,Act.put,List.setIfInBounds_toArray,List.set_cons_zero,List.set_cons_succ]
      refine wpAnyL_done (by kernel_rfl) ?_ _
      go_wp2
      go_roundw
      case rel=>exact⟨i+1,_,hi1.out,by go_num,by rw[hL2.out];exact hJ9⟩
      case measure=>have:=hi1.out;simp[intOf];omega
  ·have hki:¬(i:Int)<(A.rows.length:Int):=by omega
   obtain rfl:i=A.rows.length:=by omega
   have hd:=Hd (hJ.out.done h0h.out hBw.out (.inr hVh.out) hVh.out.size hq2b.out (by omega))
   have z0:=hJ.out.tb.cell 0 rfl
   have z1:=hJ.out.tb.cell 1 rfl
   have hrb5:Blk w4 (w.heap.size+1) #[.slice none 0 0,.slice none 0 0] 25:=(hbj.block _ hq2lt.out).trans hq2b.out
   have f1:=Blk.free hrb5
   have g0:=hrb5.cell 0 rfl
   have g1:=hrb5.cell 1 rfl
   obtain⟨ao9,cap9,hrv⟩:=hJ.out.rj.form
   subst hrv
   clear hrb5 hbj
   go_wp2
   refine bodyPost_ret (v:=.agg #[.slice av A.vars.length cv,.slice ao9 (distK A A.rows.length).length cap9]) (results_cell_row rfl _ _ (w.heap.size+1) 25 _ (0,0) _ rfl hd.out.1.eq Tryz.underlying25 rfl infoTab) rfl ⟨_,rfl,by rw[hz.out];exact hd.out.2⟩
end Go.Proofs.YtidplkfhodpdhaaGreatDoor.tab
set_option linter.unusedSimpArgs false
set_option linter.unusedVariables false
set_option maxRecDepth 100000
set_option maxHeartbeats 2000000
namespace Go.Proofs.YtidplkfhodpdhaaGreatDoor.dec
open Go.ChangeShapes Go.WideShapes Go.ChangeAt Go.RowKit kit
def allZ(f:Nat→Nat):Bool:=(List.range 16).all fun i=>f i==0
theorem eqItems_words(d:Nat)(f g:Nat→Nat)(w:World)(is:List Nat)(h:∀i∈is,i<16):
 (Op.eqItems (d+1) 157 1 (wv f) (wv g) is).run Tryz.prog w=.ok (is.all fun i=>f i==g i) w:=by
 induction is with
 |nil=>rfl
 | cons i is ih =>
  have hi:=h i (by simp)
  have px:∀f:Nat→Nat,(part 157 (wv f) (i * 1)).run Tryz.prog w=.ok (.int .u64 (f i:Nat)) w:=by
   intro f
   have:=wv_get f i hi
   simp[part,isAgg,run_underlying Tryz.underlying157,this]
  have pe:(Op.equalIn (d+1) 157 (.int .u64 (f i:Nat)) (.int .u64 (g i:Nat))).run Tryz.prog w=.ok (f i==g i) w:=by
   rw[run_equalIn_int w d 157 .u64 .u64 _ _ Tryz.underlying157]
   congr 1
   rw[Bool.eq_iff_iff];simp;omega
  simp only[Op.eqItems,Sem.run_bind,px,pe,Result.andThen_ok,List.all_cons]
  cases f i==g i
  ·simp
  ·simpa using ih fun j hj=>h j (by simp[hj])
theorem eq_words(f:Nat→Nat)(w:World):(Op.equalIn 10000 159 (.agg (wv f)) (.agg #[.int .u64 0,.int .u64 0,.int .u64 0,.int .u64 0,.int .u64 0,.int .u64 0,.int .u64 0,.int .u64 0,.int .u64 0,.int .u64 0,.int .u64 0,.int .u64 0,.int .u64 0,.int .u64 0,.int .u64 0,.int .u64 0])).run Tryz.prog w=.ok (allZ f) w:=by
 obtain⟨i,hi,_⟩:=Option.map_eq_some_iff.1 (show(Tryz.prog.info? 157).map (·.size)=some 1 by kernel_rfl)
 have hc:Tryz.prog.cellsOf 157=1:=by kernel_rfl
 have:=run_equalIn_array (P:=Tryz.prog) w 9999 (wv f) (wv fun _=>0) Tryz.underlying159 hi
 rw[hc,eqItems_words 9998 f (fun _=>0) w (List.range 16) (fun i hi=>List.mem_range.1 hi)]at this
 rw[←wv_zero]
 exact this
theorem allZ_wd(N:Nat)(hN:N<B9 ^ 16):allZ (wd N)=decide (N=0):=by
 unfold allZ
 by_cases h:N=0
 ·subst h;rw[wd_zero];rfl
 ·rw[decide_eq_false h]
  apply Bool.eq_false_iff.2
  intro hall
  have h0:∀n,n≤16→vs (wd N) n=0:=by
   intro n
   induction n with
   |zero=>intro _;rfl
   |succ n ih=>
    intro hn
    have h1:=List.all_eq_true.1 hall n (List.mem_range.2 (by omega))
    have h2:wd N n=0:=by simpa using h1
    rw[vs,ih (by omega),h2,Nat.zero_mul]
  have:=h0 16 (Nat.le_refl _)
  rw[vs_wd,Nat.mod_eq_of_lt hN]at this
  exact h this
theorem cmp_no(a b:ByteArray)(w:World)(hE:Env w)(hc:(chk a.data.toList&&chk b.data.toList)=false):
 Calls Tryz.prog 125 #[.string a,.string b] w fun e w'=>e=.returned (.int .i64 0)∧Below w.heap.size w w':=by
 have hb:=fun w hE=>both_any a b w hE
 rw[hc,num_eq,num_eq]at hb
 generalize decide (zof a.data.toList<0)=s at *
 generalize decide (zof b.data.toList<0)=t at *
 generalize wd (zof a.data.toList).natAbs=f at *
 generalize wd (zof b.data.toList).natAbs=g at *
 replace hb:=Hd hb
 replace hE:=Hd hE
 go_enter Tryz.func125,Tryz.ntmps125
 go_wp2_with fail
 refine(hb.out _ hE.out).mono ?_
 rintro e w1 ⟨rfl,hb1⟩
 have q0:Blk ((w1.alloc (.cells (nv false fun _=>0) 161)).alloc (.cells (nv false fun _=>0) 161)) w1.heap.size (nv false fun _=>0) 161:=(Blk.new _ _ _).alloc _
 have q1:Blk (((w1.alloc (.cells (nv false fun _=>0) 161)).alloc (.cells (nv false fun _=>0) 161)).setRow w1.heap.size (nv s f)) (w1.heap.size+1) (nv false fun _=>0) 161:=by
  have:=Blk.new (w1.alloc (.cells (nv false fun _=>0) 161)) (nv false fun _=>0) 161
  rw[World.size_alloc]at this
  exact this.setRow_other (by omega)
 have nw:=NW.made hb1 s t f g
 rw[nv_falses]at q0 q1 nw
 replace q0:=Hd q0
 replace q1:=Hd q1
 replace nw:=Hd nw
 go_wp2_with (first|(with_reducible refine wpList_store_rowTo rfl 161 (.tmp 5) (.tmp 13) rfl rfl w1.heap.size (nv s f) rfl rfl 161 _ (Blk.eq q0.out) (by rw[nv_size];exact Tryz.infoN) (zerosTo s f) (nv_one _ _) ?_)|(with_reducible refine wpList_store_rowTo rfl 161 (.tmp 6) (.tmp 14) rfl rfl (w1.heap.size+1) (nv t g) rfl rfl 161 _ (Blk.eq q1.out) (by rw[nv_size];exact Tryz.infoN) (zerosTo t g) (nv_one _ _) ?_))
 go_ret
 exact⟨rfl,nw.out.keep.below⟩
def cmpD(s:Bool)(N:Nat):Int:=if N=0 then 0 else if s then -1 else 1
theorem cmpD_signed(s:Bool)(N:Nat)(x y:Int)(h:signed s N=x-y):cmpD s N=cmpI x y:=by
 unfold cmpD cmpI
 unfold signed at h
 by_cases hN:N=0
 ·subst hN
  have:x=y:=by cases s<;>simp at h<;>omega
  rw[if_pos rfl,if_pos this]
 ·cases s
  ·have h1:(N:Int)=x-y:=by simpa using h
   rw[if_neg hN,if_neg (by decide),if_neg (by omega),if_neg (by omega)]
  ·have h1:-(N:Int)=x-y:=by simpa using h
   rw[if_neg hN,if_pos rfl,if_neg (by omega),if_pos (by omega)]
theorem cmp_yes(a b:ByteArray)(w:World)(hE:Env w)(hc:(chk a.data.toList&&chk b.data.toList)=true):
 Calls Tryz.prog 125 #[.string a,.string b] w fun e w'=>e=.returned (.int .i64 (cmpI (zof a.data.toList) (zof b.data.toList)))∧Below w.heap.size w w':=by
 have hb:=fun w hE=>both_any a b w hE
 rw[hc,num_eq,num_eq]at hb
 have hN:(zof a.data.toList).natAbs<top:=zof_small _
 have hM:(zof b.data.toList).natAbs<top:=zof_small _
 have hN':=small_lt (zof_small a.data.toList)
 have hM':=small_lt (zof_small b.data.toList)
 have hfin:cmpD (plusP (decide (zof a.data.toList<0)) (zof a.data.toList).natAbs (!decide (zof b.data.toList<0)) (zof b.data.toList).natAbs).1 (plusP (decide (zof a.data.toList<0)) (zof a.data.toList).natAbs (!decide (zof b.data.toList<0)) (zof b.data.toList).natAbs).2=cmpI (zof a.data.toList) (zof b.data.toList):=by
  apply cmpD_signed
  rw[plusP_signed,signed_not,signed_self,signed_self,Int.sub_eq_add_neg]
 generalize cmpI (zof a.data.toList) (zof b.data.toList)=R at *
 generalize decide (zof a.data.toList<0)=s at *
 generalize decide (zof b.data.toList<0)=t at *
 generalize (zof a.data.toList).natAbs=N at *
 generalize (zof b.data.toList).natAbs=M at *
 obtain⟨f,hf⟩:∃f,wd N=f:=⟨_,rfl⟩
 obtain⟨g,hg⟩:∃g,wd M=g:=⟨_,rfl⟩
 rw[hf,hg]at hb
 replace hb:=Hd hb
 replace hE:=Hd hE
 replace hN:=Hd hN
 replace hM:=Hd hM
 replace hN':=Hd hN'
 replace hM':=Hd hM'
 replace hf:=Hd hf
 replace hg:=Hd hg
 replace hfin:=Hd hfin
 go_enter Tryz.func125,Tryz.ntmps125
 go_wp2_with fail
 refine(hb.out _ hE.out).mono ?_
 rintro e w1 ⟨rfl,hb1⟩
 have q0:Blk ((w1.alloc (.cells (nv false fun _=>0) 161)).alloc (.cells (nv false fun _=>0) 161)) w1.heap.size (nv false fun _=>0) 161:=(Blk.new _ _ _).alloc _
 have q1:Blk (((w1.alloc (.cells (nv false fun _=>0) 161)).alloc (.cells (nv false fun _=>0) 161)).setRow w1.heap.size (nv s f)) (w1.heap.size+1) (nv false fun _=>0) 161:=by
  have:=Blk.new (w1.alloc (.cells (nv false fun _=>0) 161)) (nv false fun _=>0) 161
  rw[World.size_alloc]at this
  exact this.setRow_other (by omega)
 have nw:=NW.made hb1 s t f g
 rw[nv_falses]at q0 q1 nw
 replace q0:=Hd q0
 replace q1:=Hd q1
 replace nw:=Hd nw
 go_upto_region 4 with(first|(with_reducible refine wpList_store_rowTo rfl 161 (.tmp 5) (.tmp 13) rfl rfl w1.heap.size (nv s f) rfl rfl 161 _ (Blk.eq q0.out) (by rw[nv_size];exact Tryz.infoN) (zerosTo s f) (nv_one _ _) ?_)|(with_reducible refine wpList_store_rowTo rfl 161 (.tmp 6) (.tmp 14) rfl rfl (w1.heap.size+1) (nv t g) rfl rfl 161 _ (Blk.eq q1.out) (by rw[nv_size];exact Tryz.infoN) (zerosTo t g) (nv_one _ _) ?_))
 generalize (((w1.alloc (.cells #[.bool false,.int .u64 0,.int .u64 0,.int .u64 0,.int .u64 0,.int .u64 0,.int .u64 0,.int .u64 0,.int .u64 0,.int .u64 0,.int .u64 0,.int .u64 0,.int .u64 0,.int .u64 0,.int .u64 0,.int .u64 0,.int .u64 0] 161)).alloc (.cells #[.bool false,.int .u64 0,.int .u64 0,.int .u64 0,.int .u64 0,.int .u64 0,.int .u64 0,.int .u64 0,.int .u64 0,.int .u64 0,.int .u64 0,.int .u64 0,.int .u64 0,.int .u64 0,.int .u64 0,.int .u64 0,.int .u64 0] 161)).setRow w1.heap.size (nv s f)).setRow (w1.heap.size+1) (nv t g)=W at *;clear q0 q1
 obtain⟨c0,c1,fz⟩:=nw.out.cells
 have nn:=nw.out.neg (!t)
 replace nn:=Hd nn
 go_wp2_with (first|(with_reducible refine wpList_load_row rfl 161 (.tmp 5) rfl (w1.heap.size) rfl 161 _ (0,0) _ (Blk.eq nn.out.b0) Tryz.underlying161 rfl (by rw[nv_size];exact Tryz.infoN) ?_)|(with_reducible refine wpList_load_row rfl 161 (.tmp 6) rfl (w1.heap.size+1) rfl 161 _ (0,0) _ (Blk.eq nn.out.b1) Tryz.underlying161 rfl (by rw[nv_size];exact Tryz.infoN) ?_))
 rw[←hf.out,←hg.out]
 refine(plus_any s (!t) N M _ hN'.out hM'.out).mono ?_
 rintro e w2 ⟨rfl,hb2⟩
 have nk:=nn.out.below hb2
 have hlt:=plusP_lt s N (!t) M hN.out hM.out
 generalize plusP s N (!t) M=p at *
 obtain⟨s',D⟩:=p
 have hR:cmpD s' D=R:=hfin.out
 have hz:allZ (wd D)=decide (D=0):=allZ_wd D hlt
 have heq:=eq_words (wd D)
 dsimp only
 clear hfin hlt hb2 nn nw c0 c1 fz
 generalize wd D=d at *
 have r0:Blk (w2.alloc (.cells (nv false fun _=>0) 161)) w2.heap.size (nv false fun _=>0) 161:=Blk.new _ _ _
 have b3:Blk ((w2.alloc (.cells (nv false fun _=>0) 161)).setRow w2.heap.size (nv s' d)) w2.heap.size (nv s' d) 161:=r0.setRow
 have k3:Keep [] w ((w2.alloc (.cells (nv false fun _=>0) 161)).setRow w2.heap.size (nv s' d)):=(nk.keep.alloc _).setRow (by have:=nk.keep.size;omega) _
 rw[nv_falses]at r0 b3 k3
 replace nk:=Hd nk
 replace r0:=Hd r0
 replace b3:=Hd b3
 replace k3:=Hd k3
 replace hR:=Hd hR
 replace hz:=Hd hz
 go_upto_region 6 with(first|(with_reducible refine wpList_store_rowTo rfl 161 (.tmp 8) (.tmp 24) rfl rfl w2.heap.size (nv s' d) rfl rfl 161 _ (Blk.eq r0.out) (by rw[nv_size];exact Tryz.infoN) (zerosTo s' d) (nv_one _ _) ?_))
 clear r0
 generalize (w2.alloc (.cells #[.bool false,.int .u64 0,.int .u64 0,.int .u64 0,.int .u64 0,.int .u64 0,.int .u64 0,.int .u64 0,.int .u64 0,.int .u64 0,.int .u64 0,.int .u64 0,.int .u64 0,.int .u64 0,.int .u64 0,.int .u64 0,.int .u64 0] 161)).setRow w2.heap.size (nv s' d)=W3 at *
 replace b3:=b3.out
 have c3:W3.cell? ⟨w2.heap.size,0,none⟩=some (.bool s'):=b3.cell _ (nv_zero _ _)
 by_cases h0:D=0
 ·have hz':allZ d=true:=by rw[hz.out,decide_eq_true h0]
  have hR':Hid ((0:Int)=R):=by have:=hR.out;unfold cmpD at this;rw[if_pos h0]at this;exact this
  rw[hz']at heq
  clear hR hz h0 hz'
  have hR:=hR'
  clear hR'
  go_wp2_with (first|(with_reducible refine wpList_load_mid rfl 159 (.tmp 26) rfl (w2.heap.size) 1 rfl _ _ (nv_range b3) Tryz.underlying159 rfl (by rw[wv_len];exact Tryz.infoW) ?_))
  go_ret
  exact⟨ret_int hR.out,k3.out.below⟩
 ·have hz':allZ d=false:=by rw[hz.out,decide_eq_false h0]
  rw[hz']at heq
  have hR':(if s'=true then(-1:Int) else 1)=R:=by have:=hR.out;unfold cmpD at this;rw[if_neg h0]at this;exact this
  clear hR hz h0 hz'
  cases s'
  ·have hR:Hid ((1:Int)=R):=hR'
   clear hR'
   go_wp2_with (first|(with_reducible refine wpList_load_mid rfl 159 (.tmp 26) rfl (w2.heap.size) 1 rfl _ _ (nv_range b3) Tryz.underlying159 rfl (by rw[wv_len];exact Tryz.infoW) ?_))
   go_ret
   exact⟨ret_int hR.out,k3.out.below⟩
  ·have hR:Hid ((-1:Int)=R):=hR'
   clear hR'
   go_wp2_with (first|(with_reducible refine wpList_load_mid rfl 159 (.tmp 26) rfl (w2.heap.size) 1 rfl _ _ (nv_range b3) Tryz.underlying159 rfl (by rw[wv_len];exact Tryz.infoW) ?_))
   go_ret
   exact⟨ret_int hR.out,k3.out.below⟩
def cmpR(a b:List UInt8):Int:=if chk a&&chk b then cmpI (zof a) (zof b) else 0
theorem cmp_call(a b:ByteArray)(w:World)(hE:Env w):Calls Tryz.prog 125 #[.string a,.string b] w fun e w'=>e=.returned (.int .i64 (cmpR a.data.toList b.data.toList))∧Below w.heap.size w w':=by
 unfold cmpR
 cases hc:(chk a.data.toList&&chk b.data.toList)
 ·exact cmp_no a b w hE hc
 ·exact cmp_yes a b w hE hc
end Go.Proofs.YtidplkfhodpdhaaGreatDoor.dec
namespace Go.Proofs.YtidplkfhodpdhaaGreatDoor.val
open Go.ChangeShapes Go.WideShapes Go.ChangeAt Go.RowKit kit dec
theorem nan_any(a:Int)(w:World):Calls Tryz.prog 128 #[.int .i64 a] w fun e w'=>e=.returned (.bool false)∧w'=w:=by
 go_enter Tryz.func128,Tryz.ntmps128
 go_wp2
 go_ret
 exact⟨ret_bool (by simp),rfl⟩
theorem cmp64_any(a b:Int)(w:World):Calls Tryz.prog 106 #[.int .i64 a,.int .i64 b] w fun e w'=>e=.returned (.int .i64 (cmpI a b))∧w'=w:=by
 by_cases h:a<b
 ·have hc:cmpI a b=-1:=by unfold cmpI;rw[if_neg (by omega),if_pos h]
  rw[hc]
  clear hc
  go_enter Tryz.func106,Tryz.ntmps106
  go_wp2_with (go_at_call 128;refine(nan_any _ _).mono ?_;rintro e w' ⟨rfl,rfl⟩)
  go_ret
  exact⟨rfl,rfl⟩
 ·by_cases h2:b<a
  ·have hc:cmpI a b=1:=by unfold cmpI;rw[if_neg (by omega),if_neg h]
   rw[hc]
   clear hc
   go_enter Tryz.func106,Tryz.ntmps106
   go_wp2_with (go_at_call 128;refine(nan_any _ _).mono ?_;rintro e w' ⟨rfl,rfl⟩)
   go_ret
   exact⟨rfl,rfl⟩
  ·have hc:cmpI a b=0:=by unfold cmpI;rw[if_pos (by omega)]
   rw[hc]
   clear hc
   go_enter Tryz.func106,Tryz.ntmps106
   go_wp2_with (go_at_call 128;refine(nan_any _ _).mono ?_;rintro e w' ⟨rfl,rfl⟩)
   go_ret
   exact⟨rfl,rfl⟩
end Go.Proofs.YtidplkfhodpdhaaGreatDoor.val
