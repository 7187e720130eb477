/- Texts XGMayD, VSize, XLit, XTakes, one behind the other. -/
import Derived.Test.YtcaeipdgbaligaaGreatDoorXGMayC
import Derived.IntWalk
set_option linter.unusedSimpArgs false
set_option linter.unusedVariables false
set_option maxHeartbeats 8000000
namespace Go.Proofs.YtcaeipdgbaligaaGreatDoor.ex
open Go.ChangeShapes Go.WideShapes Go.ChangeAt Go.RowKit kit dec val tab
open hyp (RowA TextsA textsV textsV_length)
set_option maxRecDepth 100000
def NodeAt(w:World)(ao:Option Addr)(j:Nat):Prop:=∃b off id sa sn sc pa pn pc,∃ll:List ByteArray,∃lp:List (ByteArray×V),ao=some ⟨b,off,none⟩∧b<w.heap.size∧w.cell? ⟨b,off+j * 3,none⟩=some (.int .i64 id)∧w.cell? ⟨b,off+j * 3+1,none⟩=some (.slice sa sn sc)∧w.cell? ⟨b,off+j * 3+2,none⟩=some (.slice pa pn pc)∧TextsA w w.heap.size (.slice sa sn sc) ll∧ll.length≤1048576∧PairsA w 1048576 (.slice pa pn pc) lp
def EdgeAt(w:World)(ao:Option Addr)(j:Nat):Prop:=∃b off id src dst ty pa pn pc,∃lp:List (ByteArray×V),ao=some ⟨b,off,none⟩∧b<w.heap.size∧w.cell? ⟨b,off+j * 5,none⟩=some (.int .i64 id)∧w.cell? ⟨b,off+j * 5+1,none⟩=some (.int .i64 src)∧w.cell? ⟨b,off+j * 5+2,none⟩=some (.int .i64 dst)∧w.cell? ⟨b,off+j * 5+3,none⟩=some (.string ty)∧w.cell? ⟨b,off+j * 5+4,none⟩=some (.slice pa pn pc)∧PairsA w 1048576 (.slice pa pn pc) lp
theorem NodeAt.stay{w w':World}{ao:Option Addr}{j:Nat}(h:NodeAt w ao j)(hb:Below w.heap.size w w'):NodeAt w' ao j:=by
 obtain⟨b,off,id,sa,sn,sc,pa,pn,pc,ll,lp,e1,e2,c0,c1,c2,h1,h2,h3⟩:=h
 exact⟨b,off,id,sa,sn,sc,pa,pn,pc,ll,lp,e1,Nat.lt_of_lt_of_le e2 hb.size,(hb.cell (p:=⟨b,_,none⟩) e2).trans c0,(hb.cell (p:=⟨b,_,none⟩) e2).trans c1,(hb.cell (p:=⟨b,_,none⟩) e2).trans c2,TextsA.below h1 hb,h2,h3.stay hb⟩
theorem EdgeAt.stay{w w':World}{ao:Option Addr}{j:Nat}(h:EdgeAt w ao j)(hb:Below w.heap.size w w'):EdgeAt w' ao j:=by
 obtain⟨b,off,id,src,dst,ty,pa,pn,pc,lp,e1,e2,c0,c1,c2,c3,c4,h3⟩:=h
 exact⟨b,off,id,src,dst,ty,pa,pn,pc,lp,e1,Nat.lt_of_lt_of_le e2 hb.size,(hb.cell (p:=⟨b,_,none⟩) e2).trans c0,(hb.cell (p:=⟨b,_,none⟩) e2).trans c1,(hb.cell (p:=⟨b,_,none⟩) e2).trans c2,(hb.cell (p:=⟨b,_,none⟩) e2).trans c3,(hb.cell (p:=⟨b,_,none⟩) e2).trans c4,h3.stay hb⟩
theorem node_at{w:World}{v:Value}{l:List NodeD}(h:NodesA w 1048576 v l):∃ao cap,v=.slice ao l.length cap∧l.length≤1048576∧∀j,j<l.length→NodeAt w ao j:=by
 obtain⟨ao,cap,e,hl,he⟩:=h
 refine⟨ao,cap,e,hl,fun j hj=>?_⟩
 obtain⟨⟨b,off,e1,e2,c0⟩,-,⟨s,⟨b1,off1,e3,-,c1⟩,ht,hn⟩,u,⟨b2,off2,e4,-,c2⟩,hp⟩:=he j hj
 subst e1
 cases e3
 cases e4
 obtain⟨sa,sc,rfl,-⟩:=ht.form
 obtain⟨pa,pc,rfl,hpl,hpe⟩:=hp
 rw[Nat.mul_comm 3 j]at c0 c1 c2
 rw[←Nat.add_assoc]at c1 c2
 exact⟨b,off,_,sa,_,sc,pa,_,pc,_,_,rfl,e2,c0,c1,c2,ht,hn,⟨pa,pc,rfl,hpl,hpe⟩⟩
theorem edge_at{w:World}{v:Value}{l:List EdgeD}(h:EdgesG w 1048576 v l):∃ao cap,v=.slice ao l.length cap∧l.length≤1048576∧∀j,j<l.length→EdgeAt w ao j:=by
 obtain⟨ao,cap,e,hl,he⟩:=h
 refine⟨ao,cap,e,hl,fun j hj=>?_⟩
 obtain⟨⟨b,off,e1,e2,c0⟩,⟨b1,off1,e3,-,c1⟩,⟨b2,off2,e4,-,c2⟩,-,-,-,⟨b3,off3,e5,-,c3⟩,-,u,⟨b4,off4,e6,-,c4⟩,hp⟩:=he j hj
 subst e1
 cases e3
 cases e4
 cases e5
 cases e6
 obtain⟨pa,pc,rfl,hpl,hpe⟩:=hp
 rw[Nat.mul_comm 5 j]at c0 c1 c2 c3 c4
 rw[←Nat.add_assoc]at c1 c2 c3 c4
 exact⟨b,off,_,_,_,_,pa,_,pc,_,rfl,e2,c0,c1,c2,c3,c4,⟨pa,pc,rfl,hpl,hpe⟩⟩
theorem gmay_weak (w : World) (nv ev : Value) (ln : List NodeD) (le : List EdgeD) (hN : NodesA w 1048576 nv ln) (hE : EdgesG w 1048576 ev le) : Calls Tryz.prog 12 #[.agg #[nv, ev]] w (BP w) := by
 obtain⟨an,cn,rfl,hnn,hna⟩:=node_at hN
 obtain⟨ae,ce,rfl,hne,hea⟩:=edge_at hE
 have cN:=fun V (hV:Below w.heap.size w V) id=>node_weak V an cn ln (.slice ae le.length ce) id (hN.stay hV) ⟨_,_,_,rfl⟩
 clear hN hE
 generalize ln.length=nn at *
 generalize le.length=ne at *
 obtain⟨W,hW⟩:∃W,w.alloc (.cells #[.slice an nn cn,.slice ae ne ce] 28)=W:=⟨_,rfl⟩
 have hal:Below w.heap.size w W:=by rw[←hW];exact(Below.refl _ _).alloc (Nat.le_refl _) _
 have hq:Blk W w.heap.size #[.slice an nn cn,.slice ae ne ce] 28:=by rw[←hW];exact Blk.new _ _ _
 have hlq:=hq.lt
 have q0:=hq.cell 0 rfl
 have q1:=hq.cell 1 rfl
 have hni:(nn:Int)≤1048576:=by omega
 have hnj:(ne:Int)≤1048576:=by omega
 replace cN:=Hd cN
 replace hal:=Hd hal
 replace hq:=Hd hq
 replace hna:=Hd hna
 replace hea:=Hd hea
 replace hW:=Hd hW
 replace hlq:=Hd hlq
 go_enter Tryz.func12,Tryz.ntmps12
 go_upto_region 1 with fail
 rw[hW.out]
 by_cases hA:(131072:Int)<(nn:Int)
 ·go_wp2
  go_ret
  exact⟨_,rfl,hal.out⟩
 by_cases hB:(65536:Int)<(ne:Int)
 ·go_wp2
  go_ret
  exact⟨_,rfl,hal.out⟩
 go_wp2
 clear q0 q1
 go_loopw [3] (fun i wr=>∃k:Nat,k≤nn∧i=.int .i64 (k:Int)∧Hid (Below W.heap.size W wr)) (fun i _=>nn-(intOf i).toNat)
 case atStart=>exact⟨0,by omega,rfl,Hd (Below.refl _ _)⟩
 case round =>
  obtain⟨i,hi,rfl,hb⟩:=hrel
  obtain⟨u,rfl⟩:∃u:World,u=wr:=⟨_,rfl⟩
  have hqu:Blk u w.heap.size #[.slice an nn cn,.slice ae ne ce] 28:=(hb.out.block _ hlq.out).trans hq.out
  have q0:=hqu.cell 0 rfl
  have q1:=hqu.cell 1 rfl
  by_cases hlt:i<nn
  ·have hii:(i:Int)<(nn:Int):=by omega
   have hBu:=hal.out.trans (hb.out.mono hal.out.size)
   obtain⟨b,off,id,sa,sn,sc,pa,pn,pc,ll,lp,rfl,hbl,c0,c1,c2,ht,htl,hp⟩:=(hna.out i hlt).stay hBu
   obtain⟨U,hU⟩:∃U,u.alloc (.cells #[.int .i64 id,.slice sa sn sc,.slice pa pn pc] 76)=U:=⟨_,rfl⟩
   have hal1:Below u.heap.size u U:=by rw[←hU];exact(Below.refl _ _).alloc (Nat.le_refl _) _
   have hbx:Blk U u.heap.size #[.int .i64 id,.slice sa sn sc,.slice pa pn pc] 76:=by rw[←hU];exact Blk.new _ _ _
   have hqU:Blk U w.heap.size #[.slice (some ⟨b,off,none⟩) nn cn,.slice ae ne ce] 28:=(hal1.block _ hqu.lt).trans hqu
   have hWU:=hb.out.trans (hal1.mono hb.out.size)
   have cN1:=Hd (cN.out U (hal.out.trans (hWU.mono hal.out.size)))
   have ht1:=TextsA.below ht hal1
   have hp1:=hp.stay hal1
   replace hU:=Hd hU
   replace hbx:=Hd hbx
   replace hqU:=Hd hqU
   replace hWU:=Hd hWU
   replace ht1:=Hd ht1
   replace hp1:=Hd hp1
   clear hbl ht hp hal1 hqu hBu
   go_upto_region 7 with fail
   clear c0 c1 c2 q0 q1
   rw[hU.out]
   have z0:=hbx.out.cell 0 rfl
   have q0:=hqU.out.cell 0 rfl
   have q1:=hqU.out.cell 1 rfl
   go_cut [52] from 18 to 52 (fun c wx=>∃q,c=.bool q∧Hid (Below W.heap.size W wx))
   case first=>
    by_cases hid:id<0
    ·go_wp2_with fail
     go_meet
     exact⟨_,rfl,hWU⟩
    go_wp2_with fail
    refine(cN1.out _).mono ?_
    rintro e w2 ⟨r,rfl,hb2⟩
    clear z0 q0 q1
    have hW2:=hWU.out.trans (hb2.mono hWU.out.size)
    have hbx2:Blk w2 u.heap.size #[.int .i64 id,.slice sa sn sc,.slice pa pn pc] 76:=(hb2.block _ hbx.out.lt).trans hbx.out
    have ht2:=TextsA.below ht1.out hb2
    have hp2:=hp1.out.stay hb2
    have cL:=Hd (labels_weak w2 _ _ ht2 htl)
    have z1:=hbx2.cell 1 rfl
    have z2:=hbx2.cell 2 rfl
    replace hW2:=Hd hW2
    replace hbx2:=Hd hbx2
    replace hp2:=Hd hp2
    clear hb2 ht2
    by_cases hr:r=(i:Int)
    ·subst hr
     go_wp2_with fail
     refine cL.out.mono ?_
     rintro e w3 ⟨q,rfl,hb3⟩
     clear z1 z2
     have hW3:=hW2.out.trans (hb3.mono hW2.out.size)
     have hbx3:Blk w3 u.heap.size #[.int .i64 id,.slice sa sn sc,.slice pa pn pc] 76:=(hb3.block _ hbx2.out.lt).trans hbx2.out
     have cP:=Hd (props_weak w3 _ _ (hp2.out.stay hb3))
     have z2:=hbx3.cell 2 rfl
     replace hW3:=Hd hW3
     clear hbx3 hb3
     cases q
     ·go_wp2_with fail
      go_meet
      exact⟨_,rfl,hW3⟩
     ·go_wp2_with fail
      refine cP.out.mono ?_
      rintro e w4 ⟨q,rfl,hb4⟩
      have hW4:=Hd (hW3.out.trans (hb4.mono hW3.out.size))
      go_wp2_with fail
      go_meet
      exact⟨_,rfl,hW4⟩
    ·have hrb:(r==(i:Int))=false:=beq_eq_false_iff_ne.2 hr
     go_wp2_with fail
     go_meet
     exact⟨_,rfl,hW2⟩
   case rest=>
    obtain⟨q,rfl,hb2⟩:=hcut
    clear z0 q0 q1 hb hbx hqU hWU ht1 hp1 cN1
    cases q
    ·go_wp2
     go_roundw
     case rel=>exact⟨i+1,hlt,by go_num,hb2⟩
     case measure=>simp[intOf];omega
    ·have hf:=Hd (hal.out.trans (hb2.out.mono hal.out.size))
     go_wp2
     go_ret
     exact⟨_,rfl,hf.out⟩
  ·have hii : ¬ (i : Int) < (nn : Int) := by omega
   replace hqu:=Hd hqu
   go_wp2
   clear q0 q1 hqu
   go_loopw [5] (fun i wr=>∃k:Nat,k≤ne∧i=.int .i64 (k:Int)∧Hid (Below W.heap.size W wr)) (fun i _=>ne-(intOf i).toNat)
   case atStart=>exact⟨0,by omega,rfl,hb⟩
   case round =>
    obtain⟨i,hi,rfl,hb⟩:=hrel
    obtain⟨u,rfl⟩:∃u:World,u=wr:=⟨_,rfl⟩
    have hqu:Blk u w.heap.size #[.slice an nn cn,.slice ae ne ce] 28:=(hb.out.block _ hlq.out).trans hq.out
    have q0:=hqu.cell 0 rfl
    have q1:=hqu.cell 1 rfl
    by_cases hlt:i<ne
    ·have hii : (i : Int) < (ne : Int) := by omega
     have hBu:=hal.out.trans (hb.out.mono hal.out.size)
     obtain⟨b,off,id,src,dst,ty,pa,pn,pc,lp,rfl,hbl,c0,c1,c2,c3,c4,hp⟩:=(hea.out i hlt).stay hBu
     obtain⟨U,hU⟩:∃U,u.alloc (.cells #[.int .i64 id,.int .i64 src,.int .i64 dst,.string ty,.slice pa pn pc] 81)=U:=⟨_,rfl⟩
     have hal1:Below u.heap.size u U:=by rw[←hU];exact(Below.refl _ _).alloc (Nat.le_refl _) _
     have hbx:Blk U u.heap.size #[.int .i64 id,.int .i64 src,.int .i64 dst,.string ty,.slice pa pn pc] 81:=by rw[←hU];exact Blk.new _ _ _
     have hqU:Blk U w.heap.size #[.slice an nn cn,.slice (some ⟨b,off,none⟩) ne ce] 28:=(hal1.block _ hqu.lt).trans hqu
     have hWU:=hb.out.trans (hal1.mono hb.out.size)
     have hp1:=hp.stay hal1
     replace hU:=Hd hU
     replace hbx:=Hd hbx
     replace hqU:=Hd hqU
     replace hWU:=Hd hWU
     replace hp1:=Hd hp1
     have hul:=Hd hal1.size
     clear hbl hp hal1 hqu hBu
     go_upto_region 13 with fail
     clear c0 c1 c2 c3 c4 q0 q1
     rw[hU.out]
     have z0:=hbx.out.cell 0 rfl
     have z1:=hbx.out.cell 1 rfl
     have q0:=hqU.out.cell 0 rfl
     have q1:=hqU.out.cell 1 rfl
     go_cut [93] from 53 to 107 (fun c wx=>∃q,c=.bool q∧Hid (Below U.heap.size U wx))
     case first=>
      by_cases hid:id<0
      ·go_wp2_with fail
       go_meet
       exact⟨_,rfl,Hd (Below.refl _ _)⟩
      have cN1:=Hd (cN.out U (hal.out.trans (hWU.out.mono hal.out.size)) src)
      go_wp2_with fail
      refine cN1.out.mono ?_
      rintro e w2 ⟨r,rfl,hb2⟩
      clear z0 z1 q0 q1
      have hbx2:Blk w2 u.heap.size #[.int .i64 id,.int .i64 src,.int .i64 dst,.string ty,.slice pa pn pc] 81:=(hb2.block _ hbx.out.lt).trans hbx.out
      have hq2:Blk w2 w.heap.size #[.slice an nn cn,.slice (some ⟨b,off,none⟩) ne ce] 28:=(hb2.block _ hqU.out.lt).trans hqU.out
      have z2:=hbx2.cell 2 rfl
      have q0:=hq2.cell 0 rfl
      have q1:=hq2.cell 1 rfl
      have cN2:=Hd (cN.out w2 (hal.out.trans ((hWU.out.trans (hb2.mono hWU.out.size)).mono hal.out.size)) dst)
      replace hb2:=Hd hb2
      replace hbx2:=Hd hbx2
      clear hq2 cN1
      by_cases hr:r<0
      ·go_wp2_with fail
       go_meet
       exact⟨_,rfl,hb2⟩
      go_wp2_with fail
      refine cN2.out.mono ?_
      rintro e w3 ⟨r2,rfl,hb3⟩
      clear z2 q0 q1
      have hbx3:Blk w3 u.heap.size #[.int .i64 id,.int .i64 src,.int .i64 dst,.string ty,.slice pa pn pc] 81:=(hb3.block _ hbx2.out.lt).trans hbx2.out
      have hB3:=Hd (hb2.out.trans (hb3.mono hb2.out.size))
      have z3:=hbx3.cell 3 rfl
      have z4:=hbx3.cell 4 rfl
      have cW:=Hd (word_any w3 ty)
      have cP:=Hd (props_weak w3 _ _ (hp1.out.stay hB3.out))
      clear hb2 hbx2 hb3 hbx3 cN2
      by_cases hr2:r2<0
      ·go_wp2_with fail
       go_meet
       exact⟨_,rfl,hB3⟩
      go_wp2_with fail
      refine cW.out.mono ?_
      rintro e w4 ⟨q,rfl,rfl⟩
      cases q
      ·go_wp2_with fail
       go_meet
       exact⟨_,rfl,hB3⟩
      ·go_wp2_with fail
       refine cP.out.mono ?_
       rintro e w5 ⟨q,rfl,hb5⟩
       have hB5:=Hd (hB3.out.trans (hb5.mono hB3.out.size))
       go_wp2_with fail
       go_meet
       exact⟨_,rfl,hB5⟩
     case rest =>
      obtain⟨q,rfl,hb2⟩:=hcut
      clear z0 z1 q0 q1 hb hp1
      cases q
      ·go_wp2
       go_loopw [7] (fun k2 wr2=>∃j:Nat,j≤i∧k2=.int .i64 (j:Int)∧Hid (Below U.heap.size U wr2)) (fun k2 _=>i-(intOf k2).toNat)
       case atStart=>exact⟨0,by omega,rfl,hb2⟩
       case round=>
        obtain⟨j,hj,rfl,hb3⟩:=hrel
        obtain⟨u2,rfl⟩:∃u:World,u=wr:=⟨_,rfl⟩
        by_cases hj2:j<i
        ·have hji:(j:Int)<(i:Int):=by omega
         have hjn:(j:Int)<(ne:Int):=by omega
         have hBu:=hal.out.trans ((hWU.out.trans (hb3.out.mono hWU.out.size)).mono hal.out.size)
         obtain⟨b2,off2,id2,_,_,_,_,_,_,_,e2,-,y0,-⟩:=(hea.out j (by omega)).stay hBu
         cases e2
         have hx0:Blk u2 u.heap.size #[.int .i64 id,.int .i64 src,.int .i64 dst,.string ty,.slice pa pn pc] 81:=(hb3.out.block _ hbx.out.lt).trans hbx.out
         have hx1:Blk u2 w.heap.size #[.slice an nn cn,.slice (some ⟨b,off,none⟩) ne ce] 28:=(hb3.out.block _ hqU.out.lt).trans hqU.out
         have hd:=Hd (hb3.out.trans (Below_drewN 1 (Below.refl U.heap.size u2)))
         go_upto_region 18 with fail
         refine wp_region_held_drew (S:=fun V=>V.cell? ⟨b,off+j * 5,none⟩=some (.int .i64 id2)∧Blk V u.heap.size #[.int .i64 id,.int .i64 src,.int .i64 dst,.string ty,.slice pa pn pc] 81∧Blk V w.heap.size #[.slice an nn cn,.slice (some ⟨b,off,none⟩) ne ce] 28) (by kernel_rfl) ⟨y0,hx0,hx1⟩ (fun hS=>?_)
         have hd2:Hid (Below U.heap.size U u2.drew):=hd
         generalize u2.drew=V0 at *
         clear y0 hx0 hx1 hb3 hd hBu
         refine tkS [0,1,2,3,4,5,6,7,8] ?_
         iterate 9
          refine tkC ?_ rfl (fun w' hS=>?_) hS ?_
          rotate_left
          ·
           have y0:=hS.1;have x0:=hS.2.1.cell 0 rfl;have x1:=hS.2.2.cell 1 rfl
           go_simp
           try with_reducible rfl
         refine wpAnyH_done (by kernel_rfl) ?_ _
         clear hS
         have hf:=Hd (hal.out.trans ((hWU.out.trans (hd2.out.mono hWU.out.size)).mono hal.out.size))
         go_wp2
         all_goals first
          |
           go_ret
           exact⟨_,rfl,hf.out⟩
          |
           go_roundw
           case rel=>exact⟨j+1,hj2,by go_num,hd2⟩
           case measure=>simp[intOf];omega
        ·have hji:¬(j:Int)<(i:Int):=by omega
         have hf:=Hd (hWU.out.trans (hb3.out.mono hWU.out.size))
         go_wp2
         go_roundw
         case rel=>exact⟨i+1,hlt,by go_num,hf⟩
         case measure=>simp[intOf];omega
      ·have hf:=Hd (hal.out.trans ((hWU.out.trans (hb2.out.mono hWU.out.size)).mono hal.out.size))
       go_wp2
       go_ret
       exact⟨_,rfl,hf.out⟩
    ·have hii:¬(i:Int)<(ne:Int):=by omega
     have hf:=Hd (hal.out.trans (hb.out.mono hal.out.size))
     clear hqu
     go_wp2
     go_ret
     exact⟨_,rfl,hf.out⟩
end Go.Proofs.YtcaeipdgbaligaaGreatDoor.ex
set_option linter.unusedSimpArgs false
set_option linter.unusedVariables false
set_option maxRecDepth 100000
set_option maxHeartbeats 2000000
namespace Go.Proofs.YtcaeipdgbaligaaGreatDoor.val
open Go.ChangeShapes Go.WideShapes Go.ChangeAt Go.RowKit kit dec
end Go.Proofs.YtcaeipdgbaligaaGreatDoor.val
set_option linter.unusedSimpArgs false
set_option linter.unusedVariables false
set_option maxHeartbeats 4000000
namespace Go.Proofs.YtcaeipdgbaligaaGreatDoor.tab
open Go.ChangeShapes Go.WideShapes Go.ChangeAt Go.RowKit kit dec val
set_option maxRecDepth 100000
theorem xlang_any(w:World)(lang:Int):Calls Tryz.prog 19 #[.int .i64 lang] w fun e w'=>e=.returned (.int .i64 (if lang=1 then 1 else 0))∧w'=w:=by
 by_cases h:lang=1
 ·subst h
  go_enter Tryz.func19,Tryz.ntmps19
  go_wp2
  go_ret
  exact⟨rfl,rfl⟩
 ·rw[if_neg h]
  go_enter Tryz.func19,Tryz.ntmps19
  go_wp2
  go_ret
  exact⟨rfl,rfl⟩
end Go.Proofs.YtcaeipdgbaligaaGreatDoor.tab
set_option linter.unusedSimpArgs false
set_option linter.unusedVariables false
set_option maxHeartbeats 8000000
namespace Go.Proofs.YtcaeipdgbaligaaGreatDoor.ex
open Go.ChangeShapes Go.WideShapes Go.ChangeAt Go.RowKit kit dec val
set_option maxRecDepth 100000
def c13(op:Int)(t:ByteArray)(k:Int)(b:Bool)(n:Int)(t2 x2:ByteArray)(s:Value)(f:Bool)(sa sp sm sg:Value):Array Value:=#[.int .i64 op,.string t,.int .i64 k,.bool b,.int .i64 n,.string t2,.string x2,s,.bool f,sa,sp,sm,sg]
def sI(s:Bool):Int:=if s then 1 else 0
def tup3(a b:Int)(c:Bool):Value:=.tuple #[.int .i64 a,.int .i64 b,.bool c]
def takesR(s:Bool)(op:Int)(n:Nat):Value:=
 if op=1∨op=2∨op=29 then tup3 0 0 true
 else if op=3 then tup3 1 1 (!s)
 else if op=4 then tup3 0 4096 (!s)
 else if op=5∨op=22∨op=16 then tup3 1 1 true
 else if op=6∨op=7∨op=9∨op=10∨op=11∨op=12∨op=13∨op=14∨op=17∨op=18∨op=19∨op=20∨op=23∨op=24∨op=25 then tup3 2 2 true
 else if op=8∨op=21∨op=15 then tup3 2 2 (!s)
 else if op=27 then tup3 3 4096 (decide (n % 2=1))
 else tup3 0 0 false
def opL:List Int:=[1,2,3,4,5,6,7,8,9,10,11,12,13,14,15,16,17,18,19,20,21,22,23,24,25,27,29]
theorem kindsX{op:Int}(h26:op≠26)(h28:op≠28):op=1∨op=2∨op=3∨op=4∨op=5∨op=6∨op=7∨op=8∨op=9∨op=10∨op=11∨op=12∨op=13∨op=14∨op=15∨op=16∨op=17∨op=18∨op=19∨op=20∨op=21∨op=22∨op=23∨op=24∨op=25∨op=27∨op=29∨(op≠1∧op≠2∧op≠3∧op≠4∧op≠5∧op≠6∧op≠7∧op≠8∧op≠9∧op≠10∧op≠11∧op≠12∧op≠13∧op≠14∧op≠15∧op≠16∧op≠17∧op≠18∧op≠19∧op≠20∧op≠21∧op≠22∧op≠23∧op≠24∧op≠25∧op≠27∧op≠29):=by
 have:op∈opL∨op∉opL:=Decidable.em _
 simp only[opL,List.mem_cons,List.not_mem_nil,or_false,not_or]at this
 simpa only[or_assoc,ne_eq]using this
theorem takes_any(w:World)(sg0:Bool)(op:Int)(h26:op≠26)(h28:op≠28)(t:ByteArray)(k:Int)(b:Bool)(n:Int)(t2 x2:ByteArray)(s:Value)(f:Bool)(ao:Option Addr)(m cap:Nat)(hm:m≤1048576)(sp sm sg:Value):
 Calls Tryz.prog 47 #[.int .i64 (sI sg0),.agg (c13 op t k b n t2 x2 s f (.slice ao m cap) sp sm sg)] w fun e w'=>e=.returned (takesR sg0 op m)∧Below w.heap.size w w':=by
 unfold c13
 have hq:=Blk.new w #[.int .i64 op,.string t,.int .i64 k,.bool b,.int .i64 n,.string t2,.string x2,s,.bool f,.slice ao m cap,sp,sm,sg] 43
 have hal:Below w.heap.size w (w.alloc (.cells #[.int .i64 op,.string t,.int .i64 k,.bool b,.int .i64 n,.string t2,.string x2,s,.bool f,.slice ao m cap,sp,sm,sg] 43)):=(Below.refl _ _).alloc (Nat.le_refl _) _
 have x0:=hq.cell 0 rfl
 have x9:=hq.cell 9 rfl
 replace hal:=Hd hal
 clear hq
 rcases kindsX h26 h28 with rfl|rfl|rfl|rfl|rfl|rfl|rfl|rfl|rfl|rfl|rfl|rfl|rfl|rfl|rfl|rfl|rfl|rfl|rfl|rfl|rfl|rfl|rfl|rfl|rfl|rfl|rfl|⟨g1,g2,g3,g4,g5,g6,g7,g8,g9,g10,g11,g12,g13,g14,g15,g16,g17,g18,g19,g20,g21,g22,g23,g24,g25,g27,g29⟩
 ·cases sg0
  ·rw[show sI false=0 from rfl]
   go_enter Tryz.func47,Tryz.ntmps47
   go_wp2
   go_ret3
   exact⟨rfl,hal.out⟩
  ·rw[show sI true=1 from rfl]
   go_enter Tryz.func47,Tryz.ntmps47
   go_wp2
   go_ret3
   exact⟨rfl,hal.out⟩
 ·cases sg0
  ·rw[show sI false=0 from rfl]
   go_enter Tryz.func47,Tryz.ntmps47
   go_wp2
   go_ret3
   exact⟨rfl,hal.out⟩
  ·rw[show sI true=1 from rfl]
   go_enter Tryz.func47,Tryz.ntmps47
   go_wp2
   go_ret3
   exact⟨rfl,hal.out⟩
 ·cases sg0
  ·rw[show sI false=0 from rfl]
   go_enter Tryz.func47,Tryz.ntmps47
   go_wp2
   go_ret3
   exact⟨rfl,hal.out⟩
  ·rw[show sI true=1 from rfl]
   go_enter Tryz.func47,Tryz.ntmps47
   go_wp2
   go_ret3
   exact⟨rfl,hal.out⟩
 ·cases sg0
  ·rw[show sI false=0 from rfl]
   go_enter Tryz.func47,Tryz.ntmps47
   go_wp2
   go_ret3
   exact⟨rfl,hal.out⟩
  ·rw[show sI true=1 from rfl]
   go_enter Tryz.func47,Tryz.ntmps47
   go_wp2
   go_ret3
   exact⟨rfl,hal.out⟩
 ·cases sg0
  ·rw[show sI false=0 from rfl]
   go_enter Tryz.func47,Tryz.ntmps47
   go_wp2
   go_ret3
   exact⟨rfl,hal.out⟩
  ·rw[show sI true=1 from rfl]
   go_enter Tryz.func47,Tryz.ntmps47
   go_wp2
   go_ret3
   exact⟨rfl,hal.out⟩
 ·cases sg0
  ·rw[show sI false=0 from rfl]
   go_enter Tryz.func47,Tryz.ntmps47
   go_wp2
   go_ret3
   exact⟨rfl,hal.out⟩
  ·rw[show sI true=1 from rfl]
   go_enter Tryz.func47,Tryz.ntmps47
   go_wp2
   go_ret3
   exact⟨rfl,hal.out⟩
 ·cases sg0
  ·rw[show sI false=0 from rfl]
   go_enter Tryz.func47,Tryz.ntmps47
   go_wp2
   go_ret3
   exact⟨rfl,hal.out⟩
  ·rw[show sI true=1 from rfl]
   go_enter Tryz.func47,Tryz.ntmps47
   go_wp2
   go_ret3
   exact⟨rfl,hal.out⟩
 ·cases sg0
  ·rw[show sI false=0 from rfl]
   go_enter Tryz.func47,Tryz.ntmps47
   go_wp2
   go_ret3
   exact⟨rfl,hal.out⟩
  ·rw[show sI true=1 from rfl]
   go_enter Tryz.func47,Tryz.ntmps47
   go_wp2
   go_ret3
   exact⟨rfl,hal.out⟩
 ·cases sg0
  ·rw[show sI false=0 from rfl]
   go_enter Tryz.func47,Tryz.ntmps47
   go_wp2
   go_ret3
   exact⟨rfl,hal.out⟩
  ·rw[show sI true=1 from rfl]
   go_enter Tryz.func47,Tryz.ntmps47
   go_wp2
   go_ret3
   exact⟨rfl,hal.out⟩
 ·cases sg0
  ·rw[show sI false=0 from rfl]
   go_enter Tryz.func47,Tryz.ntmps47
   go_wp2
   go_ret3
   exact⟨rfl,hal.out⟩
  ·rw[show sI true=1 from rfl]
   go_enter Tryz.func47,Tryz.ntmps47
   go_wp2
   go_ret3
   exact⟨rfl,hal.out⟩
 ·cases sg0
  ·rw[show sI false=0 from rfl]
   go_enter Tryz.func47,Tryz.ntmps47
   go_wp2
   go_ret3
   exact⟨rfl,hal.out⟩
  ·rw[show sI true=1 from rfl]
   go_enter Tryz.func47,Tryz.ntmps47
   go_wp2
   go_ret3
   exact⟨rfl,hal.out⟩
 ·cases sg0
  ·rw[show sI false=0 from rfl]
   go_enter Tryz.func47,Tryz.ntmps47
   go_wp2
   go_ret3
   exact⟨rfl,hal.out⟩
  ·rw[show sI true=1 from rfl]
   go_enter Tryz.func47,Tryz.ntmps47
   go_wp2
   go_ret3
   exact⟨rfl,hal.out⟩
 ·cases sg0
  ·rw[show sI false=0 from rfl]
   go_enter Tryz.func47,Tryz.ntmps47
   go_wp2
   go_ret3
   exact⟨rfl,hal.out⟩
  ·rw[show sI true=1 from rfl]
   go_enter Tryz.func47,Tryz.ntmps47
   go_wp2
   go_ret3
   exact⟨rfl,hal.out⟩
 ·cases sg0
  ·rw[show sI false=0 from rfl]
   go_enter Tryz.func47,Tryz.ntmps47
   go_wp2
   go_ret3
   exact⟨rfl,hal.out⟩
  ·rw[show sI true=1 from rfl]
   go_enter Tryz.func47,Tryz.ntmps47
   go_wp2
   go_ret3
   exact⟨rfl,hal.out⟩
 ·cases sg0
  ·rw[show sI false=0 from rfl]
   go_enter Tryz.func47,Tryz.ntmps47
   go_wp2
   go_ret3
   exact⟨rfl,hal.out⟩
  ·rw[show sI true=1 from rfl]
   go_enter Tryz.func47,Tryz.ntmps47
   go_wp2
   go_ret3
   exact⟨rfl,hal.out⟩
 ·cases sg0
  ·rw[show sI false=0 from rfl]
   go_enter Tryz.func47,Tryz.ntmps47
   go_wp2
   go_ret3
   exact⟨rfl,hal.out⟩
  ·rw[show sI true=1 from rfl]
   go_enter Tryz.func47,Tryz.ntmps47
   go_wp2
   go_ret3
   exact⟨rfl,hal.out⟩
 ·cases sg0
  ·rw[show sI false=0 from rfl]
   go_enter Tryz.func47,Tryz.ntmps47
   go_wp2
   go_ret3
   exact⟨rfl,hal.out⟩
  ·rw[show sI true=1 from rfl]
   go_enter Tryz.func47,Tryz.ntmps47
   go_wp2
   go_ret3
   exact⟨rfl,hal.out⟩
 ·cases sg0
  ·rw[show sI false=0 from rfl]
   go_enter Tryz.func47,Tryz.ntmps47
   go_wp2
   go_ret3
   exact⟨rfl,hal.out⟩
  ·rw[show sI true=1 from rfl]
   go_enter Tryz.func47,Tryz.ntmps47
   go_wp2
   go_ret3
   exact⟨rfl,hal.out⟩
 ·cases sg0
  ·rw[show sI false=0 from rfl]
   go_enter Tryz.func47,Tryz.ntmps47
   go_wp2
   go_ret3
   exact⟨rfl,hal.out⟩
  ·rw[show sI true=1 from rfl]
   go_enter Tryz.func47,Tryz.ntmps47
   go_wp2
   go_ret3
   exact⟨rfl,hal.out⟩
 ·cases sg0
  ·rw[show sI false=0 from rfl]
   go_enter Tryz.func47,Tryz.ntmps47
   go_wp2
   go_ret3
   exact⟨rfl,hal.out⟩
  ·rw[show sI true=1 from rfl]
   go_enter Tryz.func47,Tryz.ntmps47
   go_wp2
   go_ret3
   exact⟨rfl,hal.out⟩
 ·cases sg0
  ·rw[show sI false=0 from rfl]
   go_enter Tryz.func47,Tryz.ntmps47
   go_wp2
   go_ret3
   exact⟨rfl,hal.out⟩
  ·rw[show sI true=1 from rfl]
   go_enter Tryz.func47,Tryz.ntmps47
   go_wp2
   go_ret3
   exact⟨rfl,hal.out⟩
 ·cases sg0
  ·rw[show sI false=0 from rfl]
   go_enter Tryz.func47,Tryz.ntmps47
   go_wp2
   go_ret3
   exact⟨rfl,hal.out⟩
  ·rw[show sI true=1 from rfl]
   go_enter Tryz.func47,Tryz.ntmps47
   go_wp2
   go_ret3
   exact⟨rfl,hal.out⟩
 ·cases sg0
  ·rw[show sI false=0 from rfl]
   go_enter Tryz.func47,Tryz.ntmps47
   go_wp2
   go_ret3
   exact⟨rfl,hal.out⟩
  ·rw[show sI true=1 from rfl]
   go_enter Tryz.func47,Tryz.ntmps47
   go_wp2
   go_ret3
   exact⟨rfl,hal.out⟩
 ·cases sg0
  ·rw[show sI false=0 from rfl]
   go_enter Tryz.func47,Tryz.ntmps47
   go_wp2
   go_ret3
   exact⟨rfl,hal.out⟩
  ·rw[show sI true=1 from rfl]
   go_enter Tryz.func47,Tryz.ntmps47
   go_wp2
   go_ret3
   exact⟨rfl,hal.out⟩
 ·cases sg0
  ·rw[show sI false=0 from rfl]
   go_enter Tryz.func47,Tryz.ntmps47
   go_wp2
   go_ret3
   exact⟨rfl,hal.out⟩
  ·rw[show sI true=1 from rfl]
   go_enter Tryz.func47,Tryz.ntmps47
   go_wp2
   go_ret3
   exact⟨rfl,hal.out⟩
 ·have h2:takesR sg0 27 m=tup3 3 4096 (decide (m % 2=1)):=rfl
  rw[h2]
  have hmod:((m:Int) % 2==1)=decide (m % 2=1):=by
   rw[Bool.eq_iff_iff,beq_iff_eq,decide_eq_true_eq]
   omega
  clear h2
  cases sg0
  ·rw[show sI false=0 from rfl]
   go_enter Tryz.func47,Tryz.ntmps47
   go_wp2
   go_region
   all_goals go_wp2
   all_goals go_ret3
   all_goals exact⟨rfl,Below_drewN 1 hal.out⟩
  ·rw[show sI true=1 from rfl]
   go_enter Tryz.func47,Tryz.ntmps47
   go_wp2
   go_region
   all_goals go_wp2
   all_goals go_ret3
   all_goals exact⟨rfl,Below_drewN 1 hal.out⟩
 ·cases sg0
  ·rw[show sI false=0 from rfl]
   go_enter Tryz.func47,Tryz.ntmps47
   go_wp2
   go_ret3
   exact⟨rfl,hal.out⟩
  ·rw[show sI true=1 from rfl]
   go_enter Tryz.func47,Tryz.ntmps47
   go_wp2
   go_ret3
   exact⟨rfl,hal.out⟩
 ·have h2:takesR sg0 op m=tup3 0 0 false:=by
   unfold takesR
   simp only[g1,g2,g3,g4,g5,g6,g7,g8,g9,g10,g11,g12,g13,g14,g15,g16,g17,g18,g19,g20,g21,g22,g23,g24,g25,g27,g29,or_self,if_false]
  rw[h2]
  clear h2
  cases sg0
  ·rw[show sI false=0 from rfl]
   go_enter Tryz.func47,Tryz.ntmps47
   go_wp2
   go_ret3
   exact⟨rfl,hal.out⟩
  ·rw[show sI true=1 from rfl]
   go_enter Tryz.func47,Tryz.ntmps47
   go_wp2
   go_ret3
   exact⟨rfl,hal.out⟩
end Go.Proofs.YtcaeipdgbaligaaGreatDoor.ex
