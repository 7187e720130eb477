/- The reference's Union. -/
import Derived.Test.YtidplkfhodpdhaaGreatDoorRowsO
set_option linter.unusedSimpArgs false
set_option linter.unusedVariables false
set_option maxRecDepth 100000
set_option maxHeartbeats 8000000
namespace Go.Proofs.YtidplkfhodpdhaaGreatDoor.tab
open Go.ChangeShapes Go.WideShapes Go.ChangeAt Go.RowKit kit dec val
open hyp (RowA TextsA CellsStay stay_of_below textsV textsV_length own_row OW)
theorem own_unique{w:World}{B B':Nat}{T:TypeId}{v:Value}{xs ys:List Value}(h:w.ownsRow B T 1 v xs.length xs)(h':w.ownsRow B' T 1 v ys.length ys)(hl:xs.length=ys.length):xs=ys:=by
 rcases h.2 with⟨e,hn⟩|⟨g,cap,cur,e,-,b1,-,-,-,b2⟩
 ·have q1:xs=[]:=List.eq_nil_of_length_eq_zero hn
  have q2:ys=[]:=List.eq_nil_of_length_eq_zero (by omega)
  rw[q1,q2]
 ·rcases h'.2 with⟨e2,hn⟩|⟨g2,cap2,cur2,e2,-,c1,-,-,-,c2⟩
  ·have q2:ys=[]:=List.eq_nil_of_length_eq_zero hn
   have q1:xs=[]:=List.eq_nil_of_length_eq_zero (by omega)
   rw[q1,q2]
  ·rw[e]at e2
   injection e2 with e3 e4 e5
   injection e3 with e3
   injection e3 with e3
   subst e3
   rw[b1]at c1
   cases c1
   rw[←b2,←c2,hl]
theorem RJ.both{w0 w w':World}{X X2:Nat→Prop}{N m:Nat}{v y v':Value}{rs ss:List (List V)}(hR:RJ w0 w X N v rs)(hY:RJ w0 w X2 N y ss)(hX2:∀b,b<m→X2 b)(hvm:∀g,v.ownBlock=some g→g<m)(hXm:∀b,X b→b<m)(hmw:m≤w.heap.size)
 (vs us:List Value)(hvs:w.ownsRow w0.heap.size 37 1 v vs.length vs)(hus:w.ownsRow w0.heap.size 37 1 y us.length us)(h1:vs.length=rs.length)(h2:us.length=ss.length)
 (k2:w'.ownsRow w0.heap.size 37 1 v' (vs.length+us.length) (vs++us))(hg:w.grownBy w' v.ownBlock)(hv:v'.ownBlock=v.ownBlock∨v'.ownBlock=some w.heap.size):RJ w0 w' X N v' (rs++ss):=by
 obtain⟨vs2,F,e1,own,hF,hX,hr⟩:=hR.ex
 obtain⟨us2,G,e2,own2,hG,hXY,hs⟩:=hY.ex
 obtain rfl:vs2=vs:=own_unique own hvs (e1.trans h1.symm)
 obtain rfl:us2=us:=own_unique own2 hus (e2.trans h2.symm)
 have hnew:∀b,w0.heap.size≤b∧b<w.heap.size∧v.ownBlock≠some b∧¬X b→w0.heap.size≤b∧b<w'.heap.size∧v'.ownBlock≠some b∧¬X b:=fun b hb=>by
  refine⟨hb.1,Nat.lt_of_lt_of_le hb.2.1 hg.size,?_,hb.2.2.2⟩
  rcases hv with e|e
  ·rw[e];exact hb.2.2.1
  ·rw[e]
   intro e2
   injection e2 with e2
   have:=hb.2.1
   omega
 have hG2:∀b,G b→w0.heap.size≤b∧b<w.heap.size∧v.ownBlock≠some b∧¬X b:=fun b hb=>by
  obtain⟨q1,q2,-,q4⟩:=hG b hb
  have hm:m≤b:=Nat.le_of_not_lt fun h=>q4 (hX2 b h)
  exact⟨q1,q2,fun e=>by have:=hvm b e;omega,fun h=>by have:=hXm b h;omega⟩
 refine⟨hR.below.grown hg hR.below.size (fun g e=>(own.lt g e).1),vs2++us2,fun b=>F b∨G b,by rw[List.length_append,List.length_append,e1,e2],by rw[List.length_append];exact k2,?_,?_,?_⟩
 ·intro b hb
  rcases hb with hb|hb
  ·exact hnew b (hF b hb)
  ·exact hnew b (hG2 b hb)
 ·intro g e hXg
  rcases hv with e3|e3
  ·rw[e3]at e
   exact hX g e hXg
  ·rw[e3]at e
   injection e with e
   have:=hXm g hXg
   omega
 ·intro j hj hj'
  by_cases hlt:j<vs2.length
  ·have q1:(vs2++us2)[j]'hj=vs2[j]:=List.getElem_append_left hlt
   have q2:(rs++ss)[j]'hj'=rs[j]'(by omega):=List.getElem_append_left (by omega)
   rw[q1,q2]
   exact(hr j hlt (by omega)).move hg.size (fun b hb=>.inl hb) fun b hb=>hg.block b (hF b hb).2.1 (fun e=>(hF b hb).2.2.1 e.symm)
  ·have hj2:j-vs2.length<us2.length:=by rw[List.length_append]at hj;omega
   have q1:(vs2++us2)[j]'hj=us2[j-vs2.length]'hj2:=List.getElem_append_right (by omega)
   have q2:(rs++ss)[j]'hj'=ss[j-rs.length]'(by omega):=List.getElem_append_right (by omega)
   have q3:ss[j-rs.length]'(by omega)=ss[j-vs2.length]'(by omega):=by congr 1;omega
   rw[q1,q2,q3]
   exact(hs _ hj2 (by omega)).move hg.size (fun b hb=>.inr hb) fun b hb=>hg.block b (hG2 b hb).2.1 (fun e=>(hG2 b hb).2.2.1 e.symm)
theorem wp_appS{w:World}{o:Oper}{a:Act}{K:Act→World→Prop}{Q:Exit→Act→World→Prop}(s x:Operand)
 (ho:o.op=.call { callee:=.builtin .append,args:=#[s,x],argTypes:=#[23,23] })
 (w0:World)(X X2:Nat→Prop)(N m:Nat)(v y:Value)(rs ss:List (List V))(hs:a.eval s=v)(hx:a.eval x=y)(hR:RJ w0 w X N v rs)(hY:RJ w0 w X2 N y ss)
 (hX2:∀b,b<m→X2 b)(hvm:∀g,v.ownBlock=some g→g<m)(hXm:∀b,X b→b<m)(hmw:m≤w.heap.size)(hlen:rs.length+ss.length≤1048576)
 (hK:∀v' w',RJ w0 w' X N v' (rs++ss)→w.grownBy w' v.ownBlock→(v'.ownBlock=v.ownBlock∨v'.ownBlock=some w.heap.size)→K (a.put o.dst v') w'):
 o.wp Tryz.prog a w K Q:=by
 obtain⟨i0,hi,hz1,hz2,hz3⟩:=info_parts infoRow
 obtain⟨vs,F,e1,own,hF,hX,hr⟩:=id hR.ex
 obtain⟨us,G,e2,own2,hG,hXY,hs2⟩:=id hY.ex
 have hone:∀u∈us,u.oneCell'=true:=fun u hu=>by
  obtain⟨j,hj,rfl⟩:=List.getElem_of_mem hu
  exact la_one (hs2 j hj (by omega) w hY.below (Nat.le_refl _) (fun _ _=>rfl))
 have h63:vs.length+us.length≤maxLen:=by unfold maxLen;omega
 rcases id own2.2 with⟨hy,hn⟩|⟨g,cap,cur,hy,hg0,hcell,hnc,hcap,hsz,htake⟩
 ·have q1:us=[]:=List.eq_nil_of_length_eq_zero hn
  have q2:ss=[]:=List.eq_nil_of_length_eq_zero (by omega)
  have hrun:=app_none (P:=Tryz.prog) w w0.heap.size 23 o.type 37 i0 1 Tryz.underlying23 hi v vs.length vs own 0
  have hfin:=hK v w (by rw[q2,List.append_nil];exact hR) ⟨rfl,rfl,rfl,Nat.le_refl _,fun _ _ _=>rfl⟩ (.inl rfl)
  rw[hy]at hx
  unfold Oper.wp execOp
  simp only[ho,resolve,invoke,builtin,Sem.run_bind,Sem.run_pure,Result.andThen_ok,List.map_toArray,List.map_cons,List.map_nil,hs,hx,hrun]
  exact hfin
 ·have hnews:∀j u,us[j]? = some u→w.cell? ((⟨g,0,none⟩:Addr).add j)=some u:=by
   have own3:=own2
   rw[hy]at own3
   exact own3.cells rfl
  rw[hy]at hx
  have hbs:=hR.below.size
  obtain⟨v',w',hrun,k2,k3,_⟩:=run_append_own (P:=Tryz.prog) w w0.heap.size 23 o.type 37 i0 (.slice none 0 0) 1 24 Tryz.underlying23 hi hz1 hz2 hz3 rfl (by decide) v vs.length vs own ⟨g,0,none⟩ us.length cap us (by rw[Nat.mul_one]) hnews hone h63 (by omega) hbs
  have own0:w.ownsRow 0 37 1 v vs.length vs:=own_low4 own (Nat.zero_le _)
  have hv:=append_block w 23 o.type 37 i0 (.slice none 0 0) 1 24 Tryz.underlying23 hi hz1 hz2 hz3 v vs.length vs own0 ⟨g,0,none⟩ us.length cap us (by rw[Nat.mul_one]) hnews hone h63 (by omega) v' w' hrun
  have hfin:=hK v' w' (hR.both hY hX2 hvm hXm hmw vs us own own2 e1 e2 k2 k3 hv) k3 hv
  unfold Oper.wp execOp
  simp only[ho,resolve,invoke,builtin,Sem.run_bind,Sem.run_pure,Result.andThen_ok,List.map_toArray,List.map_cons,List.map_nil,hs,hx,hrun]
  exact hfin
theorem RJ.more{w wr:World}{X Y:Nat→Prop}{N:Nat}{v:Value}{rs:List (List V)}(h:RJ w wr X N v rs)(hY:∀b,Y b→X b∨wr.heap.size≤b):RJ w wr Y N v rs:=by
 obtain⟨vs,F,h1,own,hF,hX,hr⟩:=h.ex
 exact⟨h.below,vs,F,h1,own,fun b hb=>⟨(hF b hb).1,(hF b hb).2.1,(hF b hb).2.2.1,fun hy=>by
  rcases hY b hy with h2|h2
  ·exact(hF b hb).2.2.2 h2
  ·have:=(hF b hb).2.1;omega⟩,fun g hg hy=>by
  rcases hY g hy with h2|h2
  ·exact hX g hg h2
  ·have:=(own.lt g hg).2;omega,hr⟩
theorem field_rowsU(n c n2 c2:Nat)(a b:Option Addr)(w:World):(Instr.field 25 (.agg #[.slice a n c,.slice b n2 c2]) 1).run Tryz.prog w=.ok (.slice b n2 c2) w:=by kernel_rfl
theorem rUnion_any(N:Nat)(hN:N≤1048576)(w0 w:World)(h0:Below w0.heap.size w0 w)(va vb:Value)(A B:Tab)(hA0:TabA w0 N va A)(hB0:TabA w0 N vb B)(mA:mayT A=true)(mB:mayT B=true)(ra9:A.rows.length≤1000)(rb9:B.rows.length≤1000)(hN64:128≤N):
 Calls Tryz.prog 33 #[va,vb] w fun e w'=>∃v,e=.returned v∧TabS w0 w w' N v (unionT A B):=by
 obtain⟨hnB,-⟩:=may_rows mB
 obtain⟨hnA,-⟩:=may_rows mA
 obtain⟨hA9,-,-⟩:=names_parts hnA
 obtain⟨hB9,-,hdB⟩:=names_parts hnB
 obtain⟨vv,rv,rfl,hV0,hR0⟩:=id hA0.ex
 obtain⟨vv2,rv2,rfl,hV20,hR20⟩:=id hB0.ex
 have hV:=TextsA.below hV0 h0
 have hV2:=TextsA.below hV20 h0
 obtain⟨av,cv,rfl,-⟩:=hV.form
 obtain⟨av2,cv2,rfl,-⟩:=hV2.form
 obtain⟨ar,cr,rfl,-,-⟩:=hR0.form
 obtain⟨ar2,cr2,rfl,-,-⟩:=hR20.form
 have hal:Below w.heap.size w (((w.alloc (.cells #[.slice av A.vars.length cv,.slice ar A.rows.length cr] 25)).alloc (.cells #[.slice av2 B.vars.length cv2,.slice ar2 B.rows.length cr2] 25)).alloc (.cells #[.slice none 0 0,.slice none 0 0] 25)):=
  (((Below.refl _ _).alloc (Nat.le_refl _) _).alloc (by rw[World.size_alloc];omega) _).alloc (by rw[World.size_alloc,World.size_alloc];omega) _
 have hq0:=((Blk.new w #[.slice av A.vars.length cv,.slice ar A.rows.length cr] 25).alloc (.cells #[.slice av2 B.vars.length cv2,.slice ar2 B.rows.length cr2] 25)).alloc (.cells #[.slice none 0 0,.slice none 0 0] 25)
 have hq1:=(Blk.new (w.alloc (.cells #[.slice av A.vars.length cv,.slice ar A.rows.length cr] 25)) #[.slice av2 B.vars.length cv2,.slice ar2 B.rows.length cr2] 25).alloc (.cells #[.slice none 0 0,.slice none 0 0] 25)
 have hq2:=Blk.new ((w.alloc (.cells #[.slice av A.vars.length cv,.slice ar A.rows.length cr] 25)).alloc (.cells #[.slice av2 B.vars.length cv2,.slice ar2 B.rows.length cr2] 25)) #[.slice none 0 0,.slice none 0 0] 25
 rw[World.size_alloc]at hq1 hq2
 rw[World.size_alloc]at hq2
 obtain⟨w1,hw1⟩:∃w1,(((w.alloc (.cells #[.slice av A.vars.length cv,.slice ar A.rows.length cr] 25)).alloc (.cells #[.slice av2 B.vars.length cv2,.slice ar2 B.rows.length cr2] 25)).alloc (.cells #[.slice none 0 0,.slice none 0 0] 25))=w1:=⟨_,rfl⟩
 have hs1:w1.heap.size=w.heap.size+3:=by rw[←hw1];simp
 rw[hw1]at hal hq0 hq1 hq2
 have cB:=Hd (rBoth_any w1 _ _ A.vars B.vars (TextsA.below hV hal) (TextsA.below hV2 hal) hdB (by omega) (by omega))
 have x0:=hq0.cell 0 rfl
 have x1:=hq0.cell 1 rfl
 have y0:=hq1.cell 0 rfl
 have y1:=hq1.cell 1 rfl
 have hsA:=Hd hV.size
 have hsB:=Hd hV2.size
 have hA0h:=Hd hA0
 have hB0h:=Hd hB0
 replace hal:=Hd hal
 replace hq2:=Hd hq2
 replace hw1:=Hd hw1
 replace hs1:=Hd hs1
 have h0h:=Hd h0
 clear hA0 hB0 hV hV2 hV0 hV20 hR0 hR20 hq0 hq1 hnA hnB hdB
 obtain⟨jt,hjt⟩:∃jt,unionT A B=jt:=⟨_,rfl⟩
 rw[hjt]
 have hj1:Hid (64<(B.vars.foldl addN A.vars).length→jt=⟨[],[]⟩):=Hd fun h=>by rw[←hjt];unfold unionT;rw[if_neg (by omega)]
 have hj2:Hid ((B.vars.foldl addN A.vars).length≤64→jt=⟨B.vars.foldl addN A.vars,(projT A (B.vars.foldl addN A.vars)).rows++(projT B (B.vars.foldl addN A.vars)).rows⟩):=Hd fun h=>by rw[←hjt];unfold unionT;rw[if_pos h];rfl
 clear hjt
 go_enter Tryz.func33,Tryz.ntmps33
 go_wp2_with fail
 rw[hw1.out]
 refine cB.out.mono ?_
 rintro e w2 ⟨u,rfl,hO⟩
 clear cB
 have hb2:=hO.below
 have own2:Hid (w2.ownsRow w1.heap.size 9 1 u (B.vars.foldl addN A.vars).length (textsV (B.vars.foldl addN A.vars))):=Hd (by have:=hO.own;rw[textsV_length]at this;exact this)
 obtain⟨an,cn,rfl⟩:=own_form4x own2.out
 have hBw:=Hd (hal.out.trans (hb2.mono hal.out.size))
 have hq2b:Hid (Blk w2 (w.heap.size+1+1) #[.slice none 0 0,.slice none 0 0] 25):=Hd ((hb2.block _ hq2.out.lt).trans hq2.out)
 replace x0:=sB hb2 x0
 replace x1:=sB hb2 x1
 replace y0:=sB hb2 y0
 replace y1:=sB hb2 y1
 have hsz:∀s∈B.vars.foldl addN A.vars,s.size≤maxLen:=fun s hs=>by
  rcases(mem_foldN B.vars A.vars).1 hs with h|h
  ·exact hsA.out s h
  ·exact hsB.out s h
 have hT2:=Hd (⟨own_row (by rw[textsV_length];exact own2.out),hsz⟩:TextsA w2 w2.heap.size (.slice an (B.vars.foldl addN A.vars).length cn) (B.vars.foldl addN A.vars))
 have hB0w:=Hd (h0.trans (hBw.out.mono h0.size))
 have hs2:=Hd (show w.heap.size+3≤w2.heap.size by have:=hs1.out;have:=hb2.size;omega)
 obtain⟨F,hF⟩:∃F,B.vars.foldl addN A.vars=F:=⟨_,rfl⟩
 rw[hF]at hj1 hj2 hT2 own2 hsz ⊢
 replace hsz:=Hd hsz
 replace hF:=Hd hF
 clear hO hb2 hal hq2
 by_cases h64:64<F.length
 ·have h64i:(64:Int)<(F.length:Int):=by omega
  have hz:=Hd (hj1.out h64)
  have hfin:=Hd ((hq2b.out.set 0 (.slice none 0 0)).set 1 (.slice none 0 0))
  have hbf:=Hd ((hBw.out.setCell (p:=⟨w.heap.size+1+1,0,none⟩) (by simp;omega) (.slice none 0 0)).setCell (p:=⟨w.heap.size+1+1,1,none⟩) (by simp;omega) (.slice none 0 0))
  have f1:=Blk.free hq2b.out
  have g0:=hq2b.out.cell 0 rfl
  have g1:=hq2b.out.cell 1 rfl
  clear x0 x1 y0 y1
  go_wp2
  refine bodyPost_ret (v:=.agg #[.slice none 0 0,.slice none 0 0]) (results_cell_row rfl _ _ (w.heap.size+1+1) 25 _ (0,0) _ rfl hfin.out.eq Tryz.underlying25 rfl infoTab) rfl ⟨_,rfl,?_⟩
  rw[hz.out]
  exact tabS_zero hbf.out
 have h64i:¬(64:Int)<(F.length:Int):=by omega
 have hz:=Hd (hj2.out (by omega))
 have cP:=Hd (rProj_any N hN w0 w2 hB0w.out _ (.slice an F.length cn) A F hA0h.out hT2.out mA ra9 (by omega))
 go_wp2_with fail
 refine cP.out.mono ?_
 rintro e w4 ⟨v,rfl,hb4,rv4,rfl,X1,hXa,hXb,hJ4,hlow4⟩
 obtain⟨ao4,cp4,hrv⟩:=hJ4.form
 subst hrv
 clear cP
 obtain⟨w5,hw5⟩:∃z,w4.alloc (.cells #[.slice an F.length cn,.slice ao4 (projT A F).rows.length cp4] 25)=z:=⟨_,rfl⟩
 have hal5:Below w4.heap.size w4 w5:=by rw[←hw5];exact(Below.refl _ _).alloc (Nat.le_refl _) _
 have hq5:Blk w5 w4.heap.size #[.slice an F.length cn,.slice ao4 (projT A F).rows.length cp4] 25:=by rw[←hw5];exact Blk.new _ _ _
 have hs5:w5.heap.size=w4.heap.size+1:=by rw[←hw5];exact World.size_alloc _ _
 have hb25:=hb4.trans (hal5.mono hb4.size)
 have hJ5:=(hJ4.more (Y:=fun b=>X1 b∨b=w4.heap.size) (fun b hb=>hb.imp id (fun h=>by omega))).stay hal5
 have hlt4:=hJ4.lt
 have hy0:=Hd (sB hb25 y0)
 have hy1:=Hd (sB hb25 y1)
 have hq2c:Hid (Blk w5 (w.heap.size+1+1) #[.slice none 0 0,.slice none 0 0] 25):=Hd ((hb25.block _ hq2b.out.lt).trans hq2b.out)
 have hT5:=Hd (TextsA.below hT2.out hb25)
 have hBw5:=Hd (hBw.out.trans (hb25.mono hBw.out.size))
 have hB05:=Hd (hB0w.out.trans (hb25.mono hB0w.out.size))
 have own5:=Hd (own_keep own2.out hb25)
 have hb4s:=hb4.size
 obtain⟨p6,hp6⟩:∃p,w4.heap.size=p:=⟨_,rfl⟩
 rw[hp6]at hq5 hs5 hJ5 hXb hlt4 hb4s
 have hxs:Hid (∀b,(X1 b∨b=p6)→b<p6+1):=Hd (fun b hb=>by
  rcases hb with h|h
  ·have:=hXb b h;omega
  ·omega)
 have hvs:Hid (∀g,(Value.slice ao4 (projT A F).rows.length cp4).ownBlock=some g→g<p6+1):=Hd (fun g hg=>by have:=(hlt4 g hg).2;omega)
 have hXa2:Hid (∀b,b<w.heap.size+3→X1 b):=Hd (fun b hb=>hXa b (by have:=hs2.out;omega))
 replace hJ5:=Hd hJ5
 replace hlow4:=Hd hlow4
 replace hp6:=Hd hp6
 replace hw5:=Hd hw5
 clear hJ4 hlt4 hal5 hb25 hb4 x0 x1 y0 y1 hT2 hXa hXb own2 hBw hB0w hq2b
 go_upto_region 5 with fail
 try rw[hw5.out]
 try rw[hp6.out]
 have hd0:Below w5.heap.size w5 w5.drew:=below_drewN (Below.refl _ _) 1
 have hS0:Blk w5.drew p6 #[.slice an F.length cn,.slice ao4 (projT A F).rows.length cp4] 25∧w5.drew.cell? ⟨w.heap.size+1,0,none⟩=some (.slice av2 B.vars.length cv2)∧w5.drew.cell? ⟨w.heap.size+1,1,none⟩=some (.slice ar2 B.rows.length cr2):=⟨hq5,hy0.out,hy1.out⟩
 refine wp_region_late [8] (S:=fun V=>Blk V p6 #[.slice an F.length cn,.slice ao4 (projT A F).rows.length cp4] 25∧V.cell? ⟨w.heap.size+1,0,none⟩=some (.slice av2 B.vars.length cv2)∧V.cell? ⟨w.heap.size+1,1,none⟩=some (.slice ar2 B.rows.length cr2)) (by kernel_rfl) hS0 (fun hS=>?_)
 generalize w5.drew=V0 at *
 clear hS0
 have cP:=Hd (rProj_any N hN w0 V0 (hB05.out.trans (hd0.mono hB05.out.size)) _ (.slice an F.length cn) B F hB0h.out (TextsA.below hT5.out hd0) mB rb9 (by omega))
 refine tlS [0,1,2,3] ?_
 iterate 4
  refine tlC ?_ rfl (fun w' hS=>?_) hS ?_
  rotate_left
  ·
   have z0:=hS.1.cell 0 rfl;have z1:=hS.1.cell 1 rfl;have p0:=hS.2.1;have p1:=hS.2.2
   go_simp
   try with_reducible rfl
 refine wpAnyL_ready (i:=4) (by kernel_rfl) rfl (fun K hK=>?_)
 clear hS
 go_simp
 refine cP.out.mono ?_
 rintro e w7 ⟨v,rfl,hb7,rv7,rfl,X2,hX2a,hX2b,hJ7,hlow7⟩
 obtain⟨ao7,cp7,hrv⟩:=hJ7.form
 subst hrv
 have h57:=hd0.trans (hb7.mono hd0.size)
 have hq7:Blk w7 p6 #[.slice an F.length cn,.slice ao4 (projT A F).rows.length cp4] 25:=(h57.block _ (by omega)).trans hq5
 have hJ57:=hJ5.out.stay h57
 have hs57:=h57.size
 have hV0s:=hb7.size
 have hd0s:=hd0.size
 go_wp2_with fail
 refine hKo hK ⟨hq7,sB h57 hy0.out,sB h57 hy1.out⟩ (fun hS=>?_)
 clear hK K cP
 refine tlH 5 ?_ rfl (fun w' hS=>?_) hS ?_
 rotate_left
 ·
  have fr:=field_rowsU F.length cn (projT B F).rows.length cp7 an ao7
  go_simp
  try with_reducible rfl
 refine wpAnyL_ready (i:=6) (by kernel_rfl) rfl (fun K hK=>?_)
 clear hS
 refine wp_appS (.tmp 20) (.tmp 24) rfl w0 (fun b=>X1 b∨b=p6) X2 N (p6+1) _ _ (projT A F).rows (projT B F).rows rfl rfl hJ57 hJ7 (fun b hb=>hX2a b (by omega)) hvs.out hxs.out (by omega) (by unfold projT;rw[List.length_map,List.length_map];omega) ?_
 intro v' w8 hJ8 hg8 hat8
 obtain⟨ao8,cp8,hv8⟩:=hJ8.form
 rw[List.length_append]at hv8
 subst hv8
 have hq8:Blk w8 p6 #[.slice an F.length cn,.slice ao4 (projT A F).rows.length cp4] 25:=(hg8.block _ hq7.lt (fun e=>by
  have h9:=hJ57.notX p6 e.symm
  exact h9 (.inr rfl))).trans hq7
 have hown8:∀g,(Value.slice ao4 (projT A F).rows.length cp4).ownBlock=some g→w2.heap.size≤g:=hlow4.out
 have hc8:∀i u,w7.cell? ⟨w.heap.size+1,i,none⟩=some u→w8.cell? ⟨w.heap.size+1,i,none⟩=some u:=fun i u h=>(cell_heapx (hg8.block (w.heap.size+1) (cell_lowT h) (fun e=>by have:=hown8 _ e.symm;have:=hs2.out;omega))).trans h
 have p0:=hc8 0 _ (sB h57 hy0.out)
 have p1:=hc8 1 _ (sB h57 hy1.out)
 refine hKo hK ⟨hq8,p0,p1⟩ (fun hS=>?_)
 clear hK K
 refine tlH 7 ?_ rfl (fun w' hS=>?_) hS ?_
 rotate_left
 ·
  skip
  go_simp
  try with_reducible rfl
 refine wpAnyL_late (i:=8) (by kernel_rfl) rfl (by kernel_rfl) (fun K hK=>?_)
 clear hS
 have f1:=hq8.free 1
 have z0:=hq8.cell 0 rfl
 have z1:=hq8.cell 1 rfl
 have hrb8:Blk w8 (w.heap.size+1+1) #[.slice none 0 0,.slice none 0 0] 25:=(hg8.block _ (by have:=hs2.out;omega) (fun e=>by have:=hown8 _ e.symm;have:=hs2.out;omega)).trans ((h57.block _ hq2c.out.lt).trans hq2c.out)
 have hB8:Below w.heap.size w w8:=(hBw5.out.trans (h57.mono hBw5.out.size)).grown hg8 (hBw5.out.trans (h57.mono hBw5.out.size)).size (fun g e=>by have:=hown8 g e;have:=hs2.out;omega)
 have own8:w8.ownsRow w1.heap.size 9 1 (.slice an F.length cn) F.length (textsV F):=by
  have h7:=own_keep own5.out h57
  exact h7.kept hg8 (own_two h7 hJ57.ex.choose_spec.choose_spec.2.1 (by decide))
 have hq8h:=Hd hq8
 have hrb8h:=Hd hrb8
 have hB8h:=Hd hB8
 have own8h:=Hd own8
 have hJ8h:=Hd hJ8
 clear hq8 hrb8 hB8 own8 hJ8 hJ57 hq7 hJ7 p0 p1 hc8 hown8 hg8 hat8
 go_simp
 go_wp2_with fail
 refine hK.out _ _ ?_
 clear hK K f1 z0 z1
 try simp only[List.getElem_toArray,List.getElem_cons_succ,List.getElem_cons_zero,Act.put,List.setIfInBounds_toArray,List.set_cons_zero,List.set_cons_succ]
 refine wpAnyL_done (by kernel_rfl) ?_ _
 obtain⟨w9,hw9⟩:∃z,w8.setCell ⟨p6,1,none⟩ (.slice ao8 ((projT A F).rows.length+(projT B F).rows.length) cp8)=z:=⟨_,rfl⟩
 have hwp:w.heap.size+3≤p6:=by have:=hs2.out;omega
 have hw0:=h0h.out.size
 have hq9:Blk w9 p6 #[.slice an F.length cn,(.slice ao8 ((projT A F).rows.length+(projT B F).rows.length) cp8)] 25:=by rw[←hw9];exact hq8h.out.set 1 _
 have hJ9:RJ w0 w9 (fun b=>X1 b∨b=p6) N (.slice ao8 ((projT A F).rows.length+(projT B F).rows.length) cp8) ((projT A F).rows++(projT B F).rows):=by rw[←hw9];exact hJ8h.out.cell p6 (.inr rfl) (by omega) 1 _
 have hrb9:Blk w9 (w.heap.size+1+1) #[.slice none 0 0,.slice none 0 0] 25:=by rw[←hw9];exact hrb8h.out.set_other ⟨p6,1,none⟩ (by simp;omega) _
 have hB9:Below w.heap.size w w9:=by rw[←hw9];exact hB8h.out.setCell (p:=⟨p6,1,none⟩) (by simp;omega) _
 have own9:w9.ownsRow w1.heap.size 9 1 (.slice an F.length cn) F.length (textsV F):=by rw[←hw9];exact own_set own8h.out hq8h.out (by decide) 1 _
 have z0:=hq9.cell 0 rfl
 have z1:=hq9.cell 1 rfl
 have f1:=Blk.free hrb9
 have g0:=hrb9.cell 0 rfl
 have g1:=hrb9.cell 1 rfl
 have hr2:=hrb9.set 0 (.slice an F.length cn)
 have hr3:=Hd (hr2.set 1 (.slice ao8 ((projT A F).rows.length+(projT B F).rows.length) cp8))
 have hfin:Hid (TabS w0 w ((w9.setCell ⟨w.heap.size+1+1,0,none⟩ (.slice an F.length cn)).setCell ⟨w.heap.size+1+1,1,none⟩ (.slice ao8 ((projT A F).rows.length+(projT B F).rows.length) cp8)) N (.agg #[.slice an F.length cn,(.slice ao8 ((projT A F).rows.length+(projT B F).rows.length) cp8)]) jt):=Hd (by
  rw[hz.out]
  refine⟨(hB9.setCell (p:=⟨w.heap.size+1+1,0,none⟩) (by simp;omega) _).setCell (p:=⟨w.heap.size+1+1,1,none⟩) (by simp;omega) _,⟨an,cn,ao8,cp8,by rw[List.length_append]⟩,fun W hW hs hk=>⟨_,_,rfl,?_,?_⟩⟩
  ·have own10:=own_set (own_set own9 hrb9 (by decide) 0 (.slice an F.length cn)) hr2 (by decide) 1 (.slice ao8 ((projT A F).rows.length+(projT B F).rows.length) cp8)
   exact⟨own_row (by rw[textsV_length];exact val.own_stay own10 fun g hg=>hk g (by have:=(own10.lt g hg).1;have:=hs1.out;omega) (own10.lt g hg).2),hsz.out⟩
  ·have hJ10:=(hJ9.cell (w.heap.size+1+1) (.inl (hXa2.out _ (by omega))) (by omega) 0 (.slice an F.length cn)).cell (w.heap.size+1+1) (.inl (hXa2.out _ (by omega))) (by omega) 1 (.slice ao8 ((projT A F).rows.length+(projT B F).rows.length) cp8)
   exact(hJ10.keep hW hs (fun b hlt hX=>hk b (Nat.le_of_not_lt fun hl=>hX (.inl (hXa2.out b (by omega)))) hlt)).read)
 rw[hw9]
 replace hw9:=Hd hw9
 clear hq9 hJ9 hrb9 hB9 own9 hr2 hq8h hrb8h hB8h own8h hJ8h
 go_wp2
 refine bodyPost_ret (v:=.agg #[.slice an F.length cn,(.slice ao8 ((projT A F).rows.length+(projT B F).rows.length) cp8)]) (results_cell_row rfl _ _ (w.heap.size+1+1) 25 _ (0,0) _ rfl hr3.out.eq Tryz.underlying25 rfl infoTab) rfl ⟨_,rfl,hfin.out⟩
end Go.Proofs.YtidplkfhodpdhaaGreatDoor.tab
