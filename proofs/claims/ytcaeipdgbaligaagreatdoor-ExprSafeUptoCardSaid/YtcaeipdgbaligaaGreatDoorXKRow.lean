/- Texts XSafeLaw, XSafeAll, XKRow, one behind the other. -/
import Derived.Test.YtcaeipdgbaligaaGreatDoorXWakes
set_option linter.unusedSimpArgs false
set_option linter.unusedVariables false
set_option maxHeartbeats 8000000
namespace Go.Proofs.YtcaeipdgbaligaaGreatDoor.ex
open Go.ChangeShapes Go.WideShapes Go.ChangeAt Go.RowKit kit dec val tab
open hyp (RowA TextsA textsV textsV_length)
set_option maxRecDepth 100000
theorem AskM.stay{w w':World}{v:Value}{lang:Int}{xs:List X}{ns:List ByteArray}{vs:List V}{gn:List NodeD}{ge:List EdgeD}(h:AskM w v lang xs ns vs gn ge)(hb:Below w.heap.size w w'):AskM w' v lang xs ns vs gn ge:=by
 obtain⟨⟨la,lc,na,nc,va,vc,an,cn,ae,ce,ka,kn,kc,e,t1,t2,t3,t4,t5,h1,h2⟩,h3,h4⟩:=h
 exact⟨⟨la,lc,na,nc,va,vc,an,cn,ae,ce,ka,kn,kc,e,XS.stay hb t1,TextsA.below t2 hb,t3.stay hb,t4.stay hb,t5.stay hb,h1,h2⟩,h3,h4⟩
theorem safe_may{s:Bool}{x:X}(h:safeX s x=true):mayX s x=true:=by
 unfold safeX at h
 rw[Bool.and_eq_true]at h
 exact h.1
theorem xsafe_law (hP : PgT) (w : World) (hE : EnvD w) (v : Value) (lang : Int) (xs : List X) (ns : List ByteArray) (vs : List V) (gn : List NodeD) (ge : List EdgeD) (hA : AskM w v lang xs ns vs gn ge) :
 Calls Tryz.prog 3 #[v] w fun e w'=>e=.returned (.bool true)∧Below w.heap.size w w':=by
 have hA0:=Hd hA
 obtain⟨⟨la,lc,na,nc,va,vc,an,cn,ae,ce,ka,kn,kc,rfl,t1,t2,t3,t4,t5,hk,hcap⟩,hnl,hlw⟩:=hA
 obtain⟨W,hW⟩:∃W,w.alloc (.cells #[.int .i64 lang,.slice la xs.length lc,.slice na ns.length nc,.slice va vs.length vc,.slice an gn.length cn,.slice ae ge.length ce,.slice ka kn kc] 31)=W:=⟨_,rfl⟩
 have hal:Below w.heap.size w W:=by rw[←hW];exact(Below.refl _ _).alloc (Nat.le_refl _) _
 have hq:Blk W w.heap.size #[.int .i64 lang,.slice la xs.length lc,.slice na ns.length nc,.slice va vs.length vc,.slice an gn.length cn,.slice ae ge.length ce,.slice ka kn kc] 31:=by rw[←hW];exact Blk.new _ _ _
 have cL:=Hd (light_any W lang la lc xs na ns.length nc va vc vs an gn.length cn ae ge.length ce ka kn kc gn ge (XS.stay hal t1) hnl (t3.stay hal) (t4.stay hal) (t5.stay hal) hk)
 obtain⟨_,_,_,hxl⟩:=xs_form t1
 have hxi:(xs.length:Int)≤1048576:=by omega
 have q0:=hq.cell 0 rfl
 have q1:=hq.cell 1 rfl
 have q2:=hq.cell 2 rfl
 have q3:=hq.cell 3 rfl
 have q4:=hq.cell 4 rfl
 have q5:=hq.cell 5 rfl
 have q6:=hq.cell 6 rfl
 replace hW:=Hd hW
 replace hal:=Hd hal
 replace hq:=Hd hq
 replace hE:=Hd hE
 replace t1:=Hd t1
 clear t2 t3 t4 t5
 go_enter Tryz.func3,Tryz.ntmps3
 go_upto_region 1 with fail
 rw[hW.out]
 go_wp2_with fail
 refine cL.out.mono ?_
 rintro e w2 ⟨q,rfl,hb2,hle⟩
 clear q0 q1 q2 q3 q4 q5 q6 cL
 have hB2:=hal.out.trans (hb2.mono hal.out.size)
 have hq2:Blk w2 w.heap.size #[.int .i64 lang,.slice la xs.length lc,.slice na ns.length nc,.slice va vs.length vc,.slice an gn.length cn,.slice ae ge.length ce,.slice ka kn kc] 31:=(hb2.block _ hq.out.lt).trans hq.out
 cases q
 ·replace hle:Hid True:=Hd trivial
  replace hq2:=Hd hq2
  replace hB2:=Hd hB2
  go_wp2_with fail
  refine(xwakes_any _ (hE.out.below hB2.out)).mono ?_
  rintro e wz ⟨rfl,hbz⟩
  have hBz:=Hd ((hB2.out).trans (hbz.mono (hB2.out).size))
  go_wp2
  go_ret
  exact⟨rfl,hBz.out⟩
 have hle2:=(hle rfl).1
 clear hle
 have cW:=Hd (world_any hP w2 _ lang xs ns vs gn ge (hA0.out.stay hB2) hle2)
 have q0:=hq2.cell 0 rfl
 have q1:=hq2.cell 1 rfl
 have q2:=hq2.cell 2 rfl
 have q3:=hq2.cell 3 rfl
 have q4:=hq2.cell 4 rfl
 have q5:=hq2.cell 5 rfl
 have q6:=hq2.cell 6 rfl
 replace hq2:=Hd hq2
 replace hB2:=Hd hB2
 clear hb2
 go_wp2_with fail
 refine cW.out.mono ?_
 rintro e w3 ⟨p,rfl,hb3,hM⟩
 clear q0 q1 q2 q3 q4 q5 q6 cW
 have hB3:=hB2.out.trans (hb3.mono hB2.out.size)
 have hq3:Blk w3 w.heap.size #[.int .i64 lang,.slice la xs.length lc,.slice na ns.length nc,.slice va vs.length vc,.slice an gn.length cn,.slice ae ge.length ce,.slice ka kn kc] 31:=(hb3.block _ hq2.out.lt).trans hq2.out
 replace hB3:=Hd hB3
 replace hq3:=Hd hq3
 replace hM:=Hd hM
 clear hb3 hB2 hq2 hal hq hW hA0
 go_wp2
 go_loopw [4] (fun i wr=>∃k:Nat,k≤xs.length∧i=.int .i64 (k:Int)∧Hid (Below w3.heap.size w3 wr)) (fun i _=>xs.length-(intOf i).toNat)
 case atStart=>exact⟨0,by omega,rfl,Hd (Below.refl _ _)⟩
 case round =>
  obtain⟨i,hi,rfl,hb⟩:=hrel
  obtain⟨u,rfl⟩:∃u:World,u=wr:=⟨_,rfl⟩
  have hqu:Blk u w.heap.size #[.int .i64 lang,.slice la xs.length lc,.slice na ns.length nc,.slice va vs.length vc,.slice an gn.length cn,.slice ae ge.length ce,.slice ka kn kc] 31:=(hb.out.block _ hq3.out.lt).trans hq3.out
  have hBu:=Hd (hB3.out.trans (hb.out.mono hB3.out.size))
  have q1:=hqu.cell 1 rfl
  by_cases hlt:i<xs.length
  ·have hii : (i : Int) < (xs.length : Int) := by omega
   by_cases h12:(i:Int)<12
   ·obtain⟨bA,oA,csA,rfl,hr,hx⟩:=xs_at t1.out i hlt
    obtain⟨xA,hxA⟩:∃xA,xs[i]'hlt=xA:=⟨_,rfl⟩
    rw[hxA]at hx
    clear hxA
    obtain⟨o1,s1,k2,b1,n1,s2,s3,e1,e2,e3,f1,e4,e5,e6,e7,e8,e9,d1,d2,d3,d4,d5,d6,rfl⟩:=hx.form
    unfold c13 at hr hx
    have hq4:Blk w3 w.heap.size #[.int .i64 lang,.slice (some ⟨bA,oA,none⟩) xs.length lc,.slice na ns.length nc,.slice va vs.length vc,.slice an gn.length cn,.slice ae ge.length ce,.slice ka kn kc] 31:=hq3.out
    have hr3:=hr.below hB3.out
    have hx3:=hx.stay hB3.out
    have hE3:=hE.out.below hB3.out
    have hS:∀V,Below w3.heap.size w3 V→(fun V=>Blk V w.heap.size #[.int .i64 lang,.slice (some ⟨bA,oA,none⟩) xs.length lc,.slice na ns.length nc,.slice va vs.length vc,.slice an gn.length cn,.slice ae ge.length ce,.slice ka kn kc] 31∧Row13 V bA (oA+i * 13) #[.int .i64 o1,.string s1,.int .i64 k2,.bool b1,.int .i64 n1,.string s2,.string s3,.slice e1 e2 e3,.bool f1,.slice e4 e5 e6,.slice e7 e8 e9,.slice d1 d2 d3,.slice d4 d5 d6]) V:=fun V hV=>⟨(hV.block _ hq4.lt).trans hq4,hr3.below hV⟩
    replace hq4:=Hd hq4
    replace hr3:=Hd hr3
    replace hx3:=Hd hx3
    replace hE3:=Hd hE3
    have hSS:=Hd hS
    clear hr hx hqu hS
    go_upto_region 7 with fail
    go_cut [32] from 13 to 59 (fun c wx=>c=.bool (!safeX (decide (lang=1)) xA)∧Hid (Below w3.heap.size w3 wx))
    case first=>
     have hB0:Below w3.heap.size w3 u.drew:=Below_drewN 1 hb.out
     have hS0:=hSS.out _ hB0
     clear q1 hb hBu
     refine wp_region_held_drew (S:=(fun V=>Blk V w.heap.size #[.int .i64 lang,.slice (some ⟨bA,oA,none⟩) xs.length lc,.slice na ns.length nc,.slice va vs.length vc,.slice an gn.length cn,.slice ae ge.length ce,.slice ka kn kc] 31∧Row13 V bA (oA+i * 13) #[.int .i64 o1,.string s1,.int .i64 k2,.bool b1,.int .i64 n1,.string s2,.string s3,.slice e1 e2 e3,.bool f1,.slice e4 e5 e6,.slice e7 e8 e9,.slice d1 d2 d3,.slice d4 d5 d6])) (by kernel_rfl) hS0 (fun hS=>?_)
     generalize u.drew=V0 at *
     refine tkS [0,1,2,3,4,5,6] ?_
     iterate 7
      refine tkC ?_ rfl (fun w' hS=>?_) hS ?_
      rotate_left
      ·
       have q0:=hS.1.cell 0 rfl;have q1:=hS.1.cell 1 rfl;obtain⟨y0,y1,y2,y3,y4,y5,y6,y7,y8,y9,y10,y11,y12⟩:=hS.2.all
       go_simp
       try with_reducible rfl
     refine rdH 7 rfl (fun K hK=>?_)
     clear hS
     go_simp
     refine(xsafe_any V0 (hE3.out.below hB0).env lang _ xA (hx3.out.stay hB0)).mono ?_
     rintro e w5 ⟨rfl,hb5⟩
     go_wp2_with fail
     refine hKo hK (hSS.out _ (hB0.trans (hb5.mono hB0.size))) (fun hS=>?_)
     clear hK K
     refine tkH 8 ?_ rfl (fun w' hS=>?_) hS ?_
     rotate_left
     ·
      skip
      go_simp
      try with_reducible rfl
     refine wpAnyH_done (by kernel_rfl) ?_ _
     clear hS
     have hB5:=Hd (hB0.trans (hb5.mono hB0.size))
     go_wp2
     go_meet
     exact⟨rfl,hB5⟩
    case rest =>
     obtain⟨rfl,hb5⟩:=hcut
     clear q1 hb hBu
     cases hsafe:safeX (decide (lang=1)) xA
     ·clear hsafe
      go_wp2
      go_roundw
      case rel=>exact⟨i+1,hlt,by go_num,hb5⟩
      case measure=>simp[intOf];omega
     ·replace hsafe:=Hd hsafe
      go_upto_region 8 with fail
      go_cut [6] from 13 to 59 (fun c wx=>c=.int .i64 0∧Hid (Below w3.heap.size w3 wx))
      case first=>
       have hB0:Below w3.heap.size w3 wc.drew:=Below_drewN 1 hb5.out
       have hS0:=hSS.out _ hB0
       clear hb5
       refine wp_region_held_drew (S:=(fun V=>Blk V w.heap.size #[.int .i64 lang,.slice (some ⟨bA,oA,none⟩) xs.length lc,.slice na ns.length nc,.slice va vs.length vc,.slice an gn.length cn,.slice ae ge.length ce,.slice ka kn kc] 31∧Row13 V bA (oA+i * 13) #[.int .i64 o1,.string s1,.int .i64 k2,.bool b1,.int .i64 n1,.string s2,.string s3,.slice e1 e2 e3,.bool f1,.slice e4 e5 e6,.slice e7 e8 e9,.slice d1 d2 d3,.slice d4 d5 d6])) (by kernel_rfl) hS0 (fun hS=>?_)
       generalize wc.drew=V0 at *
       refine tkS [0,1,2,3,4,5,6,7,8,9] ?_
       iterate 10
        refine tkC ?_ rfl (fun w' hS=>?_) hS ?_
        rotate_left
        ·
         have q0:=hS.1.cell 0 rfl;have q1:=hS.1.cell 1 rfl;obtain⟨y0,y1,y2,y3,y4,y5,y6,y7,y8,y9,y10,y11,y12⟩:=hS.2.all
         go_simp
         try with_reducible rfl
       refine wpAnyH_ready (rs:=[10,14]) (by kernel_rfl) (by simp) ?_
       refine AllReadyH.cons rfl (fun K hK=>?nd) (AllReadyH.cons rfl (fun K hK=>?al) AllReadyH.nil)
       case nd=>
        clear hS
        go_simp
        refine(xeval_safe V0 (hE3.out.below hB0) lang _ xA (hx3.out.stay hB0) p ns (vs.take ns.length) (hM.out.stay hB0) hsafe.out).mono ?_
        rintro e w6 ⟨k,b,n,t,x,ao,m,cap,rfl,hb6⟩
        go_wp2_with fail
        refine hKo hK (hSS.out _ (hB0.trans (hb6.mono hB0.size))) (fun hS=>?_)
        clear hK K
        unfold agg6
        have hB0:=hB0.trans (hb6.mono hB0.size)
        refine tkS [11,12,13] ?_
        iterate 3
         refine tkC ?_ rfl (fun w' hS=>?_) hS ?_
         rotate_left
         ·
          skip
          go_simp
          try with_reducible rfl
        refine rdH 14 rfl (fun K hK=>?_)
        clear hS
        go_simp
        go_wp2_with fail
        obtain⟨ua,pg,hua,hpg,hal,hqz⟩:=alloc_x w6 #[.int .i64 0,.bool false,.int .i64 0,.string ⟨#[]⟩,.string ⟨#[]⟩,.slice none 0 0] 38
        rw[hua]
        refine hKo hK (hSS.out _ (hB0.trans (hal.mono hB0.size))) (fun hS=>?_)
        clear hK K
        rw[hpg]
        have hpgs:w3.heap.size≤pg:=by rw[←hpg];exact hB0.size
        have hB0:=hB0.trans (hal.mono hB0.size)
        refine rdH 15 rfl (fun K hK=>?_)
        clear hS
        rw[if_pos (by kernel_rfl)]
        refine wp_store_row 38 (.tmp 5) (.tmp 45) rfl pg #[.int .i64 k,.bool b,.int .i64 n,.string t,.string x,.slice ao m cap] rfl rfl 38 #[.int .i64 0,.bool false,.int .i64 0,.string ⟨#[]⟩,.string ⟨#[]⟩,.slice none 0 0] hqz.eq infoV6 rfl (by simp[Value.oneCell']) ?_
        refine hKo hK (hSS.out _ (setRow_under hB0 hpgs _)) (fun hS=>?_)
        clear hK K
        refine tkH 16 ?_ rfl (fun w' hS=>?_) hS ?_
        rotate_left
        ·
         skip
         go_simp
         try with_reducible rfl
        refine wpAnyH_done (by kernel_rfl) ?_ _
        clear hS
        have hfin:=Hd (setRow_under hB0 hpgs #[.int .i64 k,.bool b,.int .i64 n,.string t,.string x,.slice ao m cap])
        go_wp2
        go_meet
        exact⟨rfl,hfin⟩
       case al=>
        clear hS
        go_simp
        go_wp2_with fail
        obtain⟨ua,pg,hua,hpg,hal,hqz⟩:=alloc_x V0 #[.int .i64 0,.bool false,.int .i64 0,.string ⟨#[]⟩,.string ⟨#[]⟩,.slice none 0 0] 38
        rw[hua]
        refine hKo hK (hSS.out _ (hB0.trans (hal.mono hB0.size))) (fun hS=>?_)
        clear hK K
        rw[hpg]
        have hpgs:w3.heap.size≤pg:=by rw[←hpg];exact hB0.size
        have hB0:=hB0.trans (hal.mono hB0.size)
        refine rdH 10 rfl (fun K hK=>?_)
        clear hS
        go_simp
        refine(xeval_safe ua (hE3.out.below hB0) lang _ xA (hx3.out.stay hB0) p ns (vs.take ns.length) (hM.out.stay hB0) hsafe.out).mono ?_
        rintro e w6 ⟨k,b,n,t,x,ao,m,cap,rfl,hb6⟩
        go_wp2_with fail
        refine hKo hK (hSS.out _ (hB0.trans (hb6.mono hB0.size))) (fun hS=>?_)
        clear hK K
        unfold agg6
        have hB0:=hB0.trans (hb6.mono hB0.size)
        refine tkS [11,12,13] ?_
        iterate 3
         refine tkC ?_ rfl (fun w' hS=>?_) hS ?_
         rotate_left
         ·
          skip
          go_simp
          try with_reducible rfl
        have hqz:=blkB hb6 hqz
        refine rdH 15 rfl (fun K hK=>?_)
        clear hS
        rw[if_pos (by kernel_rfl)]
        refine wp_store_row 38 (.tmp 5) (.tmp 45) rfl pg #[.int .i64 k,.bool b,.int .i64 n,.string t,.string x,.slice ao m cap] rfl rfl 38 #[.int .i64 0,.bool false,.int .i64 0,.string ⟨#[]⟩,.string ⟨#[]⟩,.slice none 0 0] hqz.eq infoV6 rfl (by simp[Value.oneCell']) ?_
        refine hKo hK (hSS.out _ (setRow_under hB0 hpgs _)) (fun hS=>?_)
        clear hK K
        refine tkH 16 ?_ rfl (fun w' hS=>?_) hS ?_
        rotate_left
        ·
         skip
         go_simp
         try with_reducible rfl
        refine wpAnyH_done (by kernel_rfl) ?_ _
        clear hS
        have hfin:=Hd (setRow_under hB0 hpgs #[.int .i64 k,.bool b,.int .i64 n,.string t,.string x,.slice ao m cap])
        go_wp2
        go_meet
        exact⟨rfl,hfin⟩
      case rest=>
       obtain⟨rfl,hb6⟩:=hcut
       clear hb5
       go_upto_region 9 with fail
       go_cut [59] from 13 to 59 (fun c wx=>c=.bool false∧Hid (Below w3.heap.size w3 wx))
       case first=>
        have hB0:Below w3.heap.size w3 wc.drew:=Below_drewN 1 hb6.out
        have hS0:=hSS.out _ hB0
        clear hb6
        have cK:=xcheck_any wc.drew (hE3.out.below hB0).env lang _ xA (hx3.out.stay hB0)
        rw[safe_may hsafe.out]at cK
        replace cK:=Hd cK
        refine wp_region_held_drew (S:=(fun V=>Blk V w.heap.size #[.int .i64 lang,.slice (some ⟨bA,oA,none⟩) xs.length lc,.slice na ns.length nc,.slice va vs.length vc,.slice an gn.length cn,.slice ae ge.length ce,.slice ka kn kc] 31∧Row13 V bA (oA+i * 13) #[.int .i64 o1,.string s1,.int .i64 k2,.bool b1,.int .i64 n1,.string s2,.string s3,.slice e1 e2 e3,.bool f1,.slice e4 e5 e6,.slice e7 e8 e9,.slice d1 d2 d3,.slice d4 d5 d6])) (by kernel_rfl) hS0 (fun hS=>?_)
        generalize wc.drew=V0 at *
        refine tkS [0,1,2,3,4,5,6,7,8,9] ?_
        iterate 10
         refine tkC ?_ rfl (fun w' hS=>?_) hS ?_
         rotate_left
         ·
          have q0:=hS.1.cell 0 rfl;have q1:=hS.1.cell 1 rfl;obtain⟨y0,y1,y2,y3,y4,y5,y6,y7,y8,y9,y10,y11,y12⟩:=hS.2.all
          go_simp
          try with_reducible rfl
        refine rdH 10 rfl (fun K hK=>?_)
        clear hS
        go_simp
        refine(cK.out).mono ?_
        rintro e w7 ⟨rfl,hb7⟩
        go_wp2_with fail
        refine hKo hK (hSS.out _ (hB0.trans (hb7.mono hB0.size))) (fun hS=>?_)
        clear hK K
        refine tkS [11,12] ?_
        iterate 2
         refine tkC ?_ rfl (fun w' hS=>?_) hS ?_
         rotate_left
         ·
          skip
          go_simp
          try with_reducible rfl
        refine wpAnyH_done (by kernel_rfl) ?_ _
        clear hS
        have hB7:=Hd (hB0.trans (hb7.mono hB0.size))
        go_wp2
        go_meet
        exact⟨rfl,hB7⟩
       case rest=>
        obtain⟨rfl,hb7⟩:=hcut
        clear hb6
        go_wp2
        go_roundw
        case rel=>exact⟨i+1,hlt,by go_num,hb7⟩
        case measure=>simp[intOf];omega
   ·replace hqu:=Hd hqu
    go_wp2_with fail
    refine(xwakes_any _ (hE.out.below hBu.out)).mono ?_
    rintro e wz ⟨rfl,hbz⟩
    have hBz:=Hd ((hBu.out).trans (hbz.mono (hBu.out).size))
    go_wp2
    go_ret
    exact⟨rfl,hBz.out⟩
  ·have hii:¬(i:Int)<(xs.length:Int):=by omega
   replace hqu:=Hd hqu
   go_wp2_with fail
   refine(xwakes_any _ (hE.out.below hBu.out)).mono ?_
   rintro e wz ⟨rfl,hbz⟩
   have hBz:=Hd ((hBu.out).trans (hbz.mono (hBu.out).size))
   go_wp2
   go_ret
   exact⟨rfl,hBz.out⟩
end Go.Proofs.YtcaeipdgbaligaaGreatDoor.ex
set_option linter.unusedVariables false
namespace Go.Proofs.YtcaeipdgbaligaaGreatDoor.ex
open Go.ChangeShapes Go.WideShapes Go.ChangeAt Go.RowKit kit dec val tab
set_option maxRecDepth 100000
theorem exprsafe_all(hP:PgT){H:Type}(enc:TypeId×Value→H)(W:World)(base:Nat)(v0:Value)(d0:DataW H)(p0:List MemPlace)(hv:Value.okWide Tryz.prog W .any base 31 v0)
 (h:DataW.Trod enc Tryz.prog W 0 (fun _=>true) true 31 v0 d0 p0)(hlt:∀x∈p0,x.block<W.heap.size)(hb:Rows.uptoBulk d0≤1048576)(hE:EnvD W):
 Calls Tryz.prog 3 #[v0] W fun e w'=>e=.returned (.bool true)∧Below W.heap.size W w':=by
 obtain⟨lang,xs,ns,vs,gn,ge,hA⟩:=ask_of hv h hb
 exact xsafe_law hP W hE v0 lang xs ns vs gn ge hA
end Go.Proofs.YtcaeipdgbaligaaGreatDoor.ex
set_option linter.unusedSimpArgs false
set_option linter.unusedVariables false
namespace Go.Proofs.YtcaeipdgbaligaaGreatDoor.ex
open Go.ChangeShapes Go.WideShapes Go.ChangeAt Go.RowKit kit dec val tab
open hyp (RowA TextsA textsV textsV_length)
set_option maxRecDepth 100000
def KRow(K:Nat→Value→Prop)(t:TypeId)(w:World)(b m:Nat):Prop:=∃cs,Blk w b cs t∧∀j,j<m→∃v,cs[j]? = some v∧K j v
theorem KRow.set{K:Nat→Value→Prop}{t:TypeId}{w:World}{b m i:Nat}(h:KRow K t w b m){v:Value}(hv:K i v):KRow K t (w.setCell ⟨b,i,none⟩ v) b m:=by
 obtain⟨cs,hq,hc⟩:=h
 refine⟨_,hq.set i _,fun j hj=>?_⟩
 obtain⟨s0,h0,hk⟩:=hc j hj
 rw[Array.getElem?_setIfInBounds]
 by_cases e:i=j
 ·subst e
  have hlt:=(Array.getElem?_eq_some_iff.1 h0).1
  exact⟨v,by simp[hlt],hv⟩
 ·exact⟨s0,by simp[e,h0],hk⟩
theorem KRow.nth{K:Nat→Value→Prop}{t:TypeId}{w:World}{b m:Nat}(h:KRow K t w b m)(j:Nat)(hj:j<m):∃v,w.cell? ⟨b,j,none⟩=some v∧K j v:=by
 obtain⟨cs,hq,hc⟩:=h
 obtain⟨v,h0,hk⟩:=hc j hj
 exact⟨v,hq.cell j h0,hk⟩
theorem KRow.free{K:Nat→Value→Prop}{t:TypeId}{w:World}{b m:Nat}(h:KRow K t w b m)(i:Nat):w.frozen? ⟨b,i,none⟩=false:=by
 obtain⟨cs,hq,-⟩:=h
 exact hq.free i
theorem KRow.lt{K:Nat→Value→Prop}{t:TypeId}{w:World}{b m:Nat}(h:KRow K t w b m):b<w.heap.size:=by
 obtain⟨cs,hq,-⟩:=h
 exact hq.lt
theorem KRow.keep{K:Nat→Value→Prop}{t:TypeId}{w w':World}{b m:Nat}{l:List Nat}(h:KRow K t w b m)(hk:Keep l w w')(hb:b∉l):KRow K t w' b m:=by
 obtain⟨cs,hq,hc⟩:=h
 exact⟨cs,hq.keep hk hb,hc⟩
theorem KRow.mono{K K':Nat→Value→Prop}{t:TypeId}{w:World}{b m:Nat}(h:KRow K t w b m)(hK:∀j v,K j v→K' j v):KRow K' t w b m:=by
 obtain⟨cs,hq,hc⟩:=h
 refine⟨cs,hq,fun j hj=>?_⟩
 obtain⟨v,h1,h2⟩:=hc j hj
 exact⟨v,h1,hK j v h2⟩
structure KMv(K:Nat→Value→Prop)(t:TypeId)(b:Nat)(w w':World):Prop where
 keep:Keep [b] w w'
 kinds:∀m,KRow K t w b m→KRow K t w' b m
theorem KMv.refl(K:Nat→Value→Prop)(t:TypeId)(b:Nat)(w:World):KMv K t b w w:=⟨Keep.refl _ _,fun _ h=>h⟩
theorem KMv.drewN{K:Nat→Value→Prop}{t:TypeId}{b:Nat}{w w':World}(n:Nat)(h:KMv K t b w w'):KMv K t b w (w'.drewN n):=⟨h.keep.drewN n,h.kinds⟩
theorem KMv.set{K:Nat→Value→Prop}{t:TypeId}{b i:Nat}{w w':World}(h:KMv K t b w w'){v:Value}(hv:K i v):KMv K t b w (w'.setCell ⟨b,i,none⟩ v):=
 ⟨h.keep.setCell (by simp) v,fun m hm=>(h.kinds m hm).set hv⟩
theorem KMv.alloc{K:Nat→Value→Prop}{t:TypeId}{b:Nat}{w w':World}(h:KMv K t b w w')(hb:b<w.heap.size)(o:Obj):KMv K t b w (w'.alloc o):=
 ⟨h.keep.alloc o,fun m hm=>(h.kinds m hm).keep (Keep.alloc (Keep.refl [] w') o) (by simp)⟩
def TxK(j:Nat)(v:Value):Prop:=∃s,v=.string s
def PairK(j:Nat)(v:Value):Prop:=
 match j % 7 with
 |0=>∃s,v=.string s
 |1=>∃n,v=.int .i64 n
 |2=>∃q,v=.bool q
 |3=>∃n,v=.int .i64 n
 |4=>∃s,v=.string s
 |5=>∃s,v=.string s
 |_=>∃a n c,v=.slice a n c
theorem pair_cells{t:TypeId}{w:World}{b n:Nat}(h:KRow PairK t w b (n * 7))(k:Nat)(hk:k<n):∃s i1 q i2 s1 s2 a l c,w.cell? ⟨b,k * 7,none⟩=some (.string s)∧w.cell? ⟨b,k * 7+1,none⟩=some (.int .i64 i1)∧w.cell? ⟨b,k * 7+2,none⟩=some (.bool q)∧w.cell? ⟨b,k * 7+3,none⟩=some (.int .i64 i2)∧w.cell? ⟨b,k * 7+4,none⟩=some (.string s1)∧w.cell? ⟨b,k * 7+5,none⟩=some (.string s2)∧w.cell? ⟨b,k * 7+6,none⟩=some (.slice a l c):=by
 obtain⟨v0,c0,h0⟩:=h.nth (k * 7) (by omega)
 obtain⟨v1,c1,h1⟩:=h.nth (k * 7+1) (by omega)
 obtain⟨v2,c2,h2⟩:=h.nth (k * 7+2) (by omega)
 obtain⟨v3,c3,h3⟩:=h.nth (k * 7+3) (by omega)
 obtain⟨v4,c4,h4⟩:=h.nth (k * 7+4) (by omega)
 obtain⟨v5,c5,h5⟩:=h.nth (k * 7+5) (by omega)
 obtain⟨v6,c6,h6⟩:=h.nth (k * 7+6) (by omega)
 unfold PairK at h0 h1 h2 h3 h4 h5 h6
 rw[show k * 7 % 7=0 by omega]at h0
 rw[show(k * 7+1) % 7=1 by omega]at h1
 rw[show(k * 7+2) % 7=2 by omega]at h2
 rw[show(k * 7+3) % 7=3 by omega]at h3
 rw[show(k * 7+4) % 7=4 by omega]at h4
 rw[show(k * 7+5) % 7=5 by omega]at h5
 rw[show(k * 7+6) % 7=6 by omega]at h6
 obtain⟨s,rfl⟩:=h0
 obtain⟨i1,rfl⟩:=h1
 obtain⟨q,rfl⟩:=h2
 obtain⟨i2,rfl⟩:=h3
 obtain⟨s1,rfl⟩:=h4
 obtain⟨s2,rfl⟩:=h5
 obtain⟨a,l,c,rfl⟩:=h6
 exact⟨s,i1,q,i2,s1,s2,a,l,c,c0,c1,c2,c3,c4,c5,c6⟩
structure GS(B:Nat)(w w':World):Prop where
 below:Below B w w'
 texts:∀b m,B≤b→KRow TxK 9 w b m→KRow TxK 9 w' b m
 pairs:∀b m,B≤b→KRow PairK 106 w b m→KRow PairK 106 w' b m
theorem GS.refl(B:Nat)(w:World):GS B w w:=⟨Below.refl _ _,fun _ _ _ h=>h,fun _ _ _ h=>h⟩
theorem GS.trans{B:Nat}{a b c:World}(h:GS B a b)(k:GS B b c):GS B a c:=
 ⟨h.below.trans k.below,fun g m hg hr=>k.texts g m hg (h.texts g m hg hr),fun g m hg hr=>k.pairs g m hg (h.pairs g m hg hr)⟩
theorem GS.of_below{B:Nat}{w w':World}(hB:B≤w.heap.size)(h:Below w.heap.size w w'):GS B w w':=
 ⟨h.mono hB,fun b m _ hr=>hr.keep (Keep.ofBelow h) (by simp),fun b m _ hr=>hr.keep (Keep.ofBelow h) (by simp)⟩
theorem GS.of_keep{B g:Nat}{w w':World}(hB:B≤w.heap.size)(hg:B≤g){cs:Array Value}{t:TypeId}(hq:Blk w g cs t)(h1:t≠9)(h2:t≠106)(h:Keep [g] w w'):GS B w w':=by
 refine⟨h.under B hB (by simpa using hg),fun b m _ hr=>?_,fun b m _ hr=>?_⟩
 ·refine hr.keep h ?_
  intro hb
  obtain rfl:b=g:=by simpa using hb
  obtain⟨cs2,hq2,-⟩:=hr
  have:=hq.eq.symm.trans hq2.eq
  injection this with this
  injection this with _ e2
  exact h1 e2
 ·refine hr.keep h ?_
  intro hb
  obtain rfl:b=g:=by simpa using hb
  obtain⟨cs2,hq2,-⟩:=hr
  have:=hq.eq.symm.trans hq2.eq
  injection this with this
  injection this with _ e2
  exact h2 e2
theorem type_one{w:World}{b:Nat}{c1 c2:Array Value}{t1 t2:TypeId}(h1:Blk w b c1 t1)(h2:Blk w b c2 t2):t1=t2:=by
 have:=h1.eq.symm.trans h2.eq
 injection this with this
 injection this
structure GO(B:Nat)(w w':World):Prop where
 gs:GS B w w'
 oth:∀b cs t,t≠9→t≠106→Blk w b cs t→Blk w' b cs t
theorem GO.refl(B:Nat)(w:World):GO B w w:=⟨GS.refl _ _,fun _ _ _ _ _ h=>h⟩
theorem GO.texts{B g:Nat}{w w':World}(hB:B≤w.heap.size)(hg:B≤g)(hq:∃cs,Blk w g cs 9)(h:KMv TxK 9 g w w'):GO B w w':=by
 obtain⟨cs,hq⟩:=hq
 refine⟨⟨h.keep.under B hB (by simpa using hg),fun b m _ hr=>?_,fun b m _ hr=>?_⟩,fun b cs2 t h1 h2 hb=>?_⟩
 ·by_cases e:b=g
  ·subst e;exact h.kinds m hr
  ·exact hr.keep h.keep (by simpa using e)
 ·refine hr.keep h.keep ?_
  intro e
  obtain rfl:b=g:=by simpa using e
  obtain⟨cs2,hq2,-⟩:=hr
  exact absurd (type_one hq hq2) (by decide)
 ·refine hb.keep h.keep ?_
  intro e
  obtain rfl:b=g:=by simpa using e
  exact h1 (type_one hb hq)
theorem GO.pairs{B g:Nat}{w w':World}(hB:B≤w.heap.size)(hg:B≤g)(hq:∃cs,Blk w g cs 106)(h:KMv PairK 106 g w w'):GO B w w':=by
 obtain⟨cs,hq⟩:=hq
 refine⟨⟨h.keep.under B hB (by simpa using hg),fun b m _ hr=>?_,fun b m _ hr=>?_⟩,fun b cs2 t h1 h2 hb=>?_⟩
 ·refine hr.keep h.keep ?_
  intro e
  obtain rfl:b=g:=by simpa using e
  obtain⟨cs2,hq2,-⟩:=hr
  exact absurd (type_one hq hq2) (by decide)
 ·by_cases e:b=g
  ·subst e;exact h.kinds m hr
  ·exact hr.keep h.keep (by simpa using e)
 ·refine hb.keep h.keep ?_
  intro e
  obtain rfl:b=g:=by simpa using e
  exact h2 (type_one hb hq)
def LabS(B:Nat)(w:World)(v:Value):Prop:=∃a n c,v=.slice a n c∧n≤1048576∧(0<n→∃g,a=some ⟨g,0,none⟩∧B≤g∧KRow TxK 9 w g n)
def PrpS(B:Nat)(w:World)(v:Value):Prop:=∃a n c,v=.slice a n c∧n≤1048576∧(0<n→∃g,a=some ⟨g,0,none⟩∧B≤g∧KRow PairK 106 w g (n * 7))
theorem LabS.gs{B:Nat}{w w':World}{v:Value}(h:LabS B w v)(hg:GS B w w'):LabS B w' v:=by
 obtain⟨a,n,c,e,hn,h⟩:=h
 refine⟨a,n,c,e,hn,fun h0=>?_⟩
 obtain⟨g,e1,e2,e3⟩:=h h0
 exact⟨g,e1,e2,hg.texts g n e2 e3⟩
theorem PrpS.gs{B:Nat}{w w':World}{v:Value}(h:PrpS B w v)(hg:GS B w w'):PrpS B w' v:=by
 obtain⟨a,n,c,e,hn,h⟩:=h
 refine⟨a,n,c,e,hn,fun h0=>?_⟩
 obtain⟨g,e1,e2,e3⟩:=h h0
 exact⟨g,e1,e2,hg.pairs g _ e2 e3⟩
def NodeK(B:Nat)(w:World)(j:Nat)(v:Value):Prop:=
 match j % 3 with
 |0=>∃n,v=.int .i64 n
 |1=>LabS B w v
 |_=>PrpS B w v
def EdgeK(B:Nat)(w:World)(j:Nat)(v:Value):Prop:=
 match j % 5 with
 |0=>∃n,v=.int .i64 n
 |1=>∃n,v=.int .i64 n
 |2=>∃n,v=.int .i64 n
 |3=>∃s,v=.string s
 |_=>PrpS B w v
theorem NodeK.gs{B:Nat}{w w':World}{j:Nat}{v:Value}(h:NodeK B w j v)(hg:GS B w w'):NodeK B w' j v:=by
 unfold NodeK at *
 split
 ·rename_i e;rw[e]at h;exact h
 ·rename_i e;rw[e]at h;exact LabS.gs h hg
 ·rename_i e1 e2
  split at h
  ·rename_i e;exact absurd e e1
  ·rename_i e;exact absurd e e2
  ·exact PrpS.gs h hg
theorem EdgeK.gs{B:Nat}{w w':World}{j:Nat}{v:Value}(h:EdgeK B w j v)(hg:GS B w w'):EdgeK B w' j v:=by
 unfold EdgeK at *
 split at h<;>first|exact h|exact PrpS.gs h hg
theorem node_mk{B:Nat}{w:World}(k:Nat){d:Int}{lv pv:Value}(hl:LabS B w lv)(hp:PrpS B w pv):NodeK B w (k * 3) (.int .i64 d)∧NodeK B w (k * 3+1) lv∧NodeK B w (k * 3+2) pv:=by
 unfold NodeK
 rw[show k * 3 % 3=0 by omega,show(k * 3+1) % 3=1 by omega,show(k * 3+2) % 3=2 by omega]
 exact⟨⟨_,rfl⟩,hl,hp⟩
theorem node_cells{B n b:Nat}{t:TypeId}{w:World}(h:KRow (NodeK B w) t w b (n * 3))(k:Nat)(hk:k<n):∃d lv pv,w.cell? ⟨b,k * 3,none⟩=some (.int .i64 d)∧w.cell? ⟨b,k * 3+1,none⟩=some lv∧w.cell? ⟨b,k * 3+2,none⟩=some pv∧LabS B w lv∧PrpS B w pv:=by
 obtain⟨v0,c0,h0⟩:=h.nth (k * 3) (by omega)
 obtain⟨v1,c1,h1⟩:=h.nth (k * 3+1) (by omega)
 obtain⟨v2,c2,h2⟩:=h.nth (k * 3+2) (by omega)
 unfold NodeK at h0 h1 h2
 rw[show k * 3 % 3=0 by omega]at h0
 rw[show(k * 3+1) % 3=1 by omega]at h1
 rw[show(k * 3+2) % 3=2 by omega]at h2
 obtain⟨d,rfl⟩:=h0
 exact⟨d,v1,v2,c0,c1,c2,h1,h2⟩
theorem edge_mk{B:Nat}{w:World}(k:Nat){d1 d2 d3:Int}{s:ByteArray}{pv:Value}(hp:PrpS B w pv):EdgeK B w (k * 5) (.int .i64 d1)∧EdgeK B w (k * 5+1) (.int .i64 d2)∧EdgeK B w (k * 5+2) (.int .i64 d3)∧EdgeK B w (k * 5+3) (.string s)∧EdgeK B w (k * 5+4) pv:=by
 unfold EdgeK
 rw[show k * 5 % 5=0 by omega,show(k * 5+1) % 5=1 by omega,show(k * 5+2) % 5=2 by omega,show(k * 5+3) % 5=3 by omega,show(k * 5+4) % 5=4 by omega]
 exact⟨⟨_,rfl⟩,⟨_,rfl⟩,⟨_,rfl⟩,⟨_,rfl⟩,hp⟩
theorem edge_cells{B n b:Nat}{t:TypeId}{w:World}(h:KRow (EdgeK B w) t w b (n * 5))(k:Nat)(hk:k<n):∃d1 d2 d3 s pv,w.cell? ⟨b,k * 5,none⟩=some (.int .i64 d1)∧w.cell? ⟨b,k * 5+1,none⟩=some (.int .i64 d2)∧w.cell? ⟨b,k * 5+2,none⟩=some (.int .i64 d3)∧w.cell? ⟨b,k * 5+3,none⟩=some (.string s)∧w.cell? ⟨b,k * 5+4,none⟩=some pv∧PrpS B w pv:=by
 obtain⟨v0,c0,h0⟩:=h.nth (k * 5) (by omega)
 obtain⟨v1,c1,h1⟩:=h.nth (k * 5+1) (by omega)
 obtain⟨v2,c2,h2⟩:=h.nth (k * 5+2) (by omega)
 obtain⟨v3,c3,h3⟩:=h.nth (k * 5+3) (by omega)
 obtain⟨v4,c4,h4⟩:=h.nth (k * 5+4) (by omega)
 unfold EdgeK at h0 h1 h2 h3 h4
 rw[show k * 5 % 5=0 by omega]at h0
 rw[show(k * 5+1) % 5=1 by omega]at h1
 rw[show(k * 5+2) % 5=2 by omega]at h2
 rw[show(k * 5+3) % 5=3 by omega]at h3
 rw[show(k * 5+4) % 5=4 by omega]at h4
 obtain⟨d1,rfl⟩:=h0
 obtain⟨d2,rfl⟩:=h1
 obtain⟨d3,rfl⟩:=h2
 obtain⟨s,rfl⟩:=h3
 exact⟨d1,d2,d3,s,v4,c0,c1,c2,c3,c4,h4⟩
def NodS(B:Nat)(w:World)(v:Value):Prop:=∃a n c,v=.slice a n c∧n≤1048576∧(0<n→∃g,a=some ⟨g,0,none⟩∧B≤g∧KRow (NodeK B w) 76 w g (n * 3))
def EdgS(B:Nat)(w:World)(v:Value):Prop:=∃a n c,v=.slice a n c∧n≤1048576∧(0<n→∃g,a=some ⟨g,0,none⟩∧B≤g∧KRow (EdgeK B w) 81 w g (n * 5))
theorem KRow.oth{B g m:Nat}{w w':World}{K K':Nat→Value→Prop}{t:TypeId}(h:KRow K t w g m)(hK:∀j v,K j v→K' j v)(ho:∀cs,Blk w g cs t→Blk w' g cs t):KRow K' t w' g m:=by
 obtain⟨cs,hq,hc⟩:=h
 refine⟨cs,ho cs hq,fun j hj=>?_⟩
 obtain⟨v,h1,h2⟩:=hc j hj
 exact⟨v,h1,hK j v h2⟩
theorem NodS.go{B:Nat}{w w':World}{v:Value}(h:NodS B w v)(hg:GS B w w')(ho:∀b cs,Blk w b cs 76→Blk w' b cs 76):NodS B w' v:=by
 obtain⟨a,n,c,e,hn,h⟩:=h
 refine⟨a,n,c,e,hn,fun h0=>?_⟩
 obtain⟨g,e1,e2,e3⟩:=h h0
 exact⟨g,e1,e2,KRow.oth (B:=B) e3 (fun j v hv=>NodeK.gs hv hg) (ho g)⟩
theorem EdgS.go{B:Nat}{w w':World}{v:Value}(h:EdgS B w v)(hg:GS B w w')(ho:∀b cs,Blk w b cs 81→Blk w' b cs 81):EdgS B w' v:=by
 obtain⟨a,n,c,e,hn,h⟩:=h
 refine⟨a,n,c,e,hn,fun h0=>?_⟩
 obtain⟨g,e1,e2,e3⟩:=h h0
 exact⟨g,e1,e2,KRow.oth (B:=B) e3 (fun j v hv=>EdgeK.gs hv hg) (ho g)⟩
end Go.Proofs.YtcaeipdgbaligaaGreatDoor.ex
