/- Texts RsSort, RsSame, one behind the other. -/
import Derived.Test.YtidplkfhodpdhaaGreatDoorROrdA
import Derived.Test.YtidplkfhodpdhaaGreatDoorRowsO
set_option linter.unusedSimpArgs false
set_option linter.unusedVariables false
set_option maxRecDepth 100000
set_option maxHeartbeats 4000000
namespace Go.Proofs.YtidplkfhodpdhaaGreatDoor.tab
open Go.ChangeShapes Go.WideShapes Go.ChangeAt Go.RowKit kit dec val
open hyp (RowA TextsA CellsStay stay_of_below textsV textsV_length own_row OW)
theorem rRows_any(N:Nat)(hN:N≤1048576)(lang:Int)(w:World)(s s2:Value)(l l2:List V)(ha:LA w N s l)(ha2:LA w N s2 l2):
 Calls Tryz.prog 24 #[.int .i64 lang,s,s2] w fun e w'=>e=.returned (.int .i64 (ordL (decide (lang=1)) l l2))∧Below w.heap.size w w':=by
 have hc:=Hd (rrows_call N (SizeOf.sizeOf l) hN lang (rord_all N hN lang _) w s s2 l l2 (Nat.le_refl _) ha ha2)
 clear ha ha2
 go_enter Tryz.func24,Tryz.ntmps24
 go_wp2_with fail
 refine hc.out.mono ?_
 rintro e w' ⟨rfl,hb⟩
 go_wp2
 go_ret
 exact⟨rfl,hb⟩
theorem insPos_step{s:Bool}{l:List (List V)}{r:List V}{k:Nat}(hk:k<l.length):insPos s l r (k+1)=if 0<ordL s l[k] r then insPos s l r k else k+1:=by
 rw[insPos,getD_at l hk]
theorem sortR_take{s:Bool}{L:List (List V)}{k:Nat}(h:k<L.length):sortR s (L.take (k+1))=insR s (sortR s (L.take k)) L[k]:=by
 unfold sortR
 rw[List.take_succ_eq_append_getElem h,List.foldl_append]
 rfl
theorem rSort_any (N : Nat) (hN : N ≤ 1048576) (lang : Int) (w : World) (v : Value) (L : List (List V)) (hR : RowsA w N v L) (hl : L.length ≤ 1000000) :
 Calls Tryz.prog 71 #[.int .i64 lang,v] w fun e w'=>∃v',e=.returned v'∧Below w.heap.size w w'∧RO w w' w.heap.size N v' (sortR (decide (lang=1)) L):=by
 obtain⟨ao,cap,rfl,hcap,hat⟩:=hR.form
 replace hat:=Hd hat
 have hLi:(L.length:Int)≤1000000:=by omega
 clear hR
 go_enter Tryz.func71,Tryz.ntmps71
 go_wp2
 go_loopw [5,6] (fun vo vi wr=>∃k:Nat,k≤L.length∧vi=.int .i64 k∧Hid (Below w.heap.size w wr)∧Hid (RO w wr w.heap.size N vo (sortR (decide (lang=1)) (L.take k)))) (fun _ vi _=>L.length-(intOf vi).toNat)
 case atStart=>exact⟨0,by omega,rfl,Hd (Below.refl _ _),Hd (by rw[List.take_zero];exact RO.nil _ _ _ _)⟩
 case round =>
  obtain⟨k,hk,rfl,hb,hO⟩:=hrel
  obtain⟨w1,rfl⟩:∃w1:World,w1=wr:=⟨_,rfl⟩
  by_cases hlt:k<L.length
  ·have hki : (k : Int) < (L.length : Int) := by omega
   obtain⟨O,hOe⟩:∃O,sortR (decide (lang=1)) (L.take k)=O:=⟨_,rfl⟩
   rw[hOe]at hO
   have hOl:O.length=k:=by rw[←hOe,sortR_len,List.length_take];omega
   replace hOe:=Hd hOe
   obtain⟨a1,c1,rfl⟩:=hO.out.form
   obtain⟨b2,off2,ar,cr,rfl,hb2,hcell,hla⟩:=hat.out k hlt
   have hcw:=sB hb.out hcell
   replace hOl:=Hd hOl
   have hOi:(O.length:Int)≤1000000:=by have:=hOl.out;omega
   have hOn:O.length≤1000000:=by have:=hOl.out;omega
   clear hcell
   replace hla:=Hd hla
   go_wp2
   generalize hvo:Value.slice a1 O.length c1=vo at *
   replace hvo:=Hd hvo
   go_loopw [7] (fun vj wj=>∃m:Nat,m≤O.length∧vj=.int .i64 m∧Hid (Below w1.heap.size w1 wj)∧Hid (insPos (decide (lang=1)) O L[k] O.length=insPos (decide (lang=1)) O L[k] m)) (fun vj _=>(intOf vj).toNat)
   case atStart=>exact⟨O.length,Nat.le_refl _,rfl,Hd (Below.refl _ _),Hd rfl⟩
   case round =>
    obtain⟨m,hm,rfl,hbj,hpos⟩:=hrel
    obtain⟨wj,rfl⟩:∃wj:World,wj=wr:=⟨_,rfl⟩
    have hdr:Below wj.heap.size wj wj.drew:=below_drewN (Below.refl _ _) 1
    by_cases hm0:m=0
    ·have hmi:¬(0:Int)<(m:Int):=by omega
     replace hpos:Hid (insPos (decide (lang=1)) O L[k] O.length=m):=Hd (by rw[hpos.out,hm0];rfl)
     go_upto_region 6 with fail
     refine wp_region_held_drew (S:=fun V=>Below wj.heap.size wj V) (by kernel_rfl) hdr (fun hS=>?_)
     refine tkS [0,1,2] ?_
     iterate 3
      refine tkC ?_ rfl (fun w' hS=>?_) hS ?_
      rotate_left
      ·
       skip
       go_simp
       try with_reducible rfl
     refine tkS [3,4,5,6,7,8,9,10,11,12,13,14] ?_
     iterate 12 (refine tkV rfl hS ?_)
     refine tkH 15 ?_ rfl (fun w' hS=>?_) hS ?_
     rotate_left
     ·
      skip
      go_simp
      try with_reducible rfl
     refine wpAnyH_done (by kernel_rfl) ?_ _
     clear hS
     have hbj2:Hid (Below w1.heap.size w1 wj.drew):=Hd (hbj.out.trans (hdr.mono hbj.out.size))
     clear hdr hbj
     generalize wj.drew=wj at *
     have hbj:=hbj2
     clear hbj2
     replace hm0:=Hd hm0
     have hpl:m≤O.length:=by omega
     obtain⟨y1,y2,hy1,hy2,hP1,hP2⟩:=RO.parts (hO.out.keep (fun g hg=>hbj.out.block g (hO.out.lt g hg).2)) hpl (by omega)
     have hwj:Below w.heap.size w wj:=hb.out.trans (hbj.out.mono hb.out.size)
     have hins:Hid (sortR (decide (lang=1)) (L.take (k+1))=O.take (m)++[L[k]]++O.drop (m)):=Hd (by rw[sortR_take hlt,hOe.out];unfold insR;rw[hpos.out];simp)
     have hl1:(O.take (m)).length=m:=by rw[List.length_take];omega
     have hl2:(O.drop (m)).length=O.length-m:=by rw[List.length_drop]
     have hcj:=Hd (fun V (h:Below wj.heap.size wj V)=>(stay_of_below (hbj.out.trans (h.mono hbj.out.size))).cell hcw)
     replace hP1:=Hd hP1
     replace hP2:=Hd hP2
     replace hwj:=Hd hwj
     replace hl1:=Hd hl1
     replace hl2:=Hd hl2
     clear hcw hb hO hbj hpos
     go_wp2_with (at_builtin;refine wpList_appO rfl _ _ rfl w wj.heap.size N _ _ [] (O.take (m)) rfl rfl (RO.nil _ _ _ _) (Nat.le_refl _) hP1.out (by rw[hl1.out];simp;omega) ?pa)
     case pa=>
      intro v3 w3 hR3 hg3
      try rw[List.nil_append]at hR3
      have hb3:Below wj.heap.size wj w3:=(Below.refl _ _).grown hg3 (Nat.le_refl _) (fun k hk=>by simp[Value.ownBlock]at hk)
      have hc3:=hcj.out w3 hb3
      have hal:Below w3.heap.size w3 (w3.alloc (.cells #[.slice ar L[k].length cr] 37)):=(Below.refl _ _).alloc (Nat.le_refl _) _
      have hq:=Blk.new w3 #[.slice ar L[k].length cr] 37
      have hR4:=Hd (hR3.keep (fun g hg=>hal.block g (hR3.lt g hg).2))
      have hb4:=Hd (hb3.trans (hal.mono hb3.size))
      have hone:=Hd (PO.one (N:=N) (hq.cell 0 rfl) hla)
      clear hg3 hR3 hq hb3 hal
      go_wp2_with (at_builtin;refine wpList_appO rfl _ _ rfl w wj.heap.size N _ _ (O.take (m)) [L[k]] rfl rfl hR4.out hb4.out.size hone.out (by rw[hl1.out];simp;omega) ?pb)
      case pb=>
       intro v5 w5 hR5 hg5
       have hb5:=Hd (hb4.out.grown hg5 hb4.out.size (fun g hg=>(hR4.out.lt g hg).1))
       have hP5:=Hd (hP2.out.stay hb5.out)
       replace hR5:=Hd hR5
       clear hg5 hone hc3 hR4 hb4
       go_wp2_with (at_builtin;refine wpList_appO rfl _ _ rfl w wj.heap.size N _ _ (O.take (m)++[L[k]]) (O.drop (m)) rfl rfl hR5.out hb5.out.size hP5.out (by rw[List.length_append,hl1.out,hl2.out];simp;omega) ?pc)
       case pc=>
        intro v6 w6 hR6 hg6
        have hb6:=hb5.out.grown hg6 hb5.out.size (fun g hg=>(hR5.out.lt g hg).1)
        have hfin:=Hd (hwj.out.trans (hb6.mono hwj.out.size))
        have hRf:Hid (RO w w6 w.heap.size N v6 (sortR (decide (lang=1)) (L.take (k+1)))):=Hd (by rw[hins.out];have h:=hR6.low hwj.out.size;simpa using h)
        clear hR6 hg6 hb6 hR5 hb5 hP5 hcj hP1 hP2 hy1 hy2 hins
        go_wp2
        go_roundw
        case rel=>exact⟨k+1,by omega,by go_num,hfin,hRf⟩
        case measure=>simp[intOf];omega
    ·obtain⟨q,hq⟩:∃q,m=q+1:=⟨m-1,by omega⟩
     have hmi:(0:Int)<(m:Int):=by omega
     have hmn:0<m:=by omega
     have hmq:IntKind.i64.wrap ((m:Int)-1)=(q:Int):=by rw[IntWalk.i64_in _ (by omega)];omega
     have hql:q<O.length:=by omega
     have hqi:(q:Int)<(O.length:Int):=by omega
     have hOj:=hO.out.keep (fun g hg=>hbj.out.block g (hO.out.lt g hg).2)
     obtain⟨a9,c9,e9,-,hat9⟩:=(hOj.read (hb.out.trans (hbj.out.mono hb.out.size))).form
     obtain⟨b3,off3,aq,cq,e3,hb3,hcell3,hla3⟩:=hat9 q hql
     subst e3
     have hvo2:=hvo.out.trans e9
     injection hvo2 with i1 i2 i3
     subst i1 i3
     have hvo3:=hvo.out
     subst hvo3
     clear hvo e9 i2 hat9
     have hcj2:=sB hbj.out hcw
     have hst:=insPos_step (s:=decide (lang=1)) (r:=L[k]) hql
     rw[←hq]at hst
     have hcl:=Hd (fun V (h:Below wj.heap.size wj V)=>rRows_any N hN lang V _ _ _ _ (hla3.stay h) ((hla.out.stay (hb.out.trans (hbj.out.mono hb.out.size))).stay h))
     obtain⟨c,hc⟩:∃c,ordL (decide (lang=1)) O[q] L[k]=c:=⟨_,rfl⟩
     rw[hc]at hst
     rw[hc]at hcl
     replace hst:=Hd hst
     replace hc:=Hd hc
     replace hq:=Hd hq
     replace hO:=Hd hO
     clear hla3 hOj
     go_upto_region 6 with fail
     refine wp_region_held_drew (S:=fun V=>Below wj.heap.size wj V) (by kernel_rfl) hdr (fun hS=>?_)
     have hV:=hS
     generalize wj.drew=V0 at *
     refine tkS [0,1,2,3,4,5,6,7] ?_
     iterate 8
      refine tkC ?_ rfl (fun w' hS=>?_) hS ?_
      rotate_left
      ·
       skip
       go_simp
       try with_reducible rfl
     refine tkH 8 ?_ rfl (fun w' hS=>?_) hS ?_
     rotate_left
     ·
      have x0:=sB hS hcell3
      go_simp
      try with_reducible rfl
     refine tkS [9,10,11] ?_
     iterate 3
      refine tkC ?_ rfl (fun w' hS=>?_) hS ?_
      rotate_left
      ·
       skip
       go_simp
       try with_reducible rfl
     refine tkH 12 ?_ rfl (fun w' hS=>?_) hS ?_
     rotate_left
     ·
      have x0:=sB hS hcj2
      go_simp
      try with_reducible rfl
     refine rdH 13 rfl (fun K hK=>?_)
     clear hS
     go_simp
     refine(hcl.out _ hV).mono ?_
     rintro e wk ⟨rfl,hbk⟩
     go_wp2_with fail
     refine hKo hK (hV.trans (hbk.mono hV.size)) (fun hS=>?_)
     clear hK K
     have hbk2:Hid (Below w1.heap.size w1 wk):=Hd (hbj.out.trans ((hV.trans (hbk.mono hV.size)).mono hbj.out.size))
     refine tkS [14,15] ?_
     iterate 2
      refine tkC ?_ rfl (fun w' hS=>?_) hS ?_
      rotate_left
      ·
       skip
       go_simp
       try with_reducible rfl
     refine wpAnyH_done (by kernel_rfl) ?_ _
     clear hS hbk hV hdr hcl hcell3 hcj2 hbj
     by_cases hgt:0<c
     ·have hst2:=Hd (hpos.out.trans (hst.out.trans (if_pos hgt)))
      clear hst hpos
      go_wp2
      go_roundw
      case rel=>exact⟨q,by omega,rfl,hbk2,hst2⟩
      case measure=>have:=hq.out;simp[intOf];omega
     ·have hst2:Hid (insPos (decide (lang=1)) O L[k] O.length=m):=Hd (hpos.out.trans (hst.out.trans (if_neg hgt)))
      clear hst hpos hmq hqi
      replace hO:=hO.out
      generalize hvo:Value.slice (some ⟨b3,off3,none⟩) O.length c1=vo at *
      replace hvo:=Hd hvo
      clear hc hq
      obtain⟨wj,rfl⟩:∃z:World,z=wk:=⟨_,rfl⟩
      have hpos:=hst2
      have hbj:=hbk2
      clear hst2 hbk2
      have hpl:m≤O.length:=by omega
      obtain⟨y1,y2,hy1,hy2,hP1,hP2⟩:=RO.parts (hO.out.keep (fun g hg=>hbj.out.block g (hO.out.lt g hg).2)) hpl (by omega)
      have hwj:Below w.heap.size w wj:=hb.out.trans (hbj.out.mono hb.out.size)
      have hins:Hid (sortR (decide (lang=1)) (L.take (k+1))=O.take (m)++[L[k]]++O.drop (m)):=Hd (by rw[sortR_take hlt,hOe.out];unfold insR;rw[hpos.out];simp)
      have hl1:(O.take (m)).length=m:=by rw[List.length_take];omega
      have hl2:(O.drop (m)).length=O.length-m:=by rw[List.length_drop]
      have hcj:=Hd (fun V (h:Below wj.heap.size wj V)=>(stay_of_below (hbj.out.trans (h.mono hbj.out.size))).cell hcw)
      replace hP1:=Hd hP1
      replace hP2:=Hd hP2
      replace hwj:=Hd hwj
      replace hl1:=Hd hl1
      replace hl2:=Hd hl2
      clear hcw hb hO hbj hpos
      go_wp2_with (at_builtin;refine wpList_appO rfl _ _ rfl w wj.heap.size N _ _ [] (O.take (m)) rfl rfl (RO.nil _ _ _ _) (Nat.le_refl _) hP1.out (by rw[hl1.out];simp;omega) ?ra)
      case ra=>
       intro v3 w3 hR3 hg3
       try rw[List.nil_append]at hR3
       have hb3:Below wj.heap.size wj w3:=(Below.refl _ _).grown hg3 (Nat.le_refl _) (fun k hk=>by simp[Value.ownBlock]at hk)
       have hc3:=hcj.out w3 hb3
       have hal:Below w3.heap.size w3 (w3.alloc (.cells #[.slice ar L[k].length cr] 37)):=(Below.refl _ _).alloc (Nat.le_refl _) _
       have hq:=Blk.new w3 #[.slice ar L[k].length cr] 37
       have hR4:=Hd (hR3.keep (fun g hg=>hal.block g (hR3.lt g hg).2))
       have hb4:=Hd (hb3.trans (hal.mono hb3.size))
       have hone:=Hd (PO.one (N:=N) (hq.cell 0 rfl) hla)
       clear hg3 hR3 hq hb3 hal
       go_wp2_with (at_builtin;refine wpList_appO rfl _ _ rfl w wj.heap.size N _ _ (O.take (m)) [L[k]] rfl rfl hR4.out hb4.out.size hone.out (by rw[hl1.out];simp;omega) ?rb)
       case rb=>
        intro v5 w5 hR5 hg5
        have hb5:=Hd (hb4.out.grown hg5 hb4.out.size (fun g hg=>(hR4.out.lt g hg).1))
        have hP5:=Hd (hP2.out.stay hb5.out)
        replace hR5:=Hd hR5
        clear hg5 hone hc3 hR4 hb4
        go_wp2_with (at_builtin;refine wpList_appO rfl _ _ rfl w wj.heap.size N _ _ (O.take (m)++[L[k]]) (O.drop (m)) rfl rfl hR5.out hb5.out.size hP5.out (by rw[List.length_append,hl1.out,hl2.out];simp;omega) ?rc)
        case rc=>
         intro v6 w6 hR6 hg6
         have hb6:=hb5.out.grown hg6 hb5.out.size (fun g hg=>(hR5.out.lt g hg).1)
         have hfin:=Hd (hwj.out.trans (hb6.mono hwj.out.size))
         have hRf:Hid (RO w w6 w.heap.size N v6 (sortR (decide (lang=1)) (L.take (k+1)))):=Hd (by rw[hins.out];have h:=hR6.low hwj.out.size;simpa using h)
         clear hR6 hg6 hb6 hR5 hb5 hP5 hcj hP1 hP2 hy1 hy2 hins
         go_wp2
         go_roundw
         case rel=>exact⟨k+1,by omega,by go_num,hfin,hRf⟩
         case measure=>simp[intOf];omega
  ·have hki:¬(k:Int)<(L.length:Int):=by omega
   obtain rfl:k=L.length:=by omega
   rw[List.take_length]at hO
   go_wp2
   go_ret
   exact⟨_,rfl,hb.out,hO.out⟩
end Go.Proofs.YtidplkfhodpdhaaGreatDoor.tab
