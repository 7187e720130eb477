/- Texts RtJoinR, RtMinusR, RtCopy, one behind the other. -/
import Derived.Test.YtidplkfhodpdhaaGreatDoorRtA
import Derived.Test.YtidplkfhodpdhaaGreatDoorTabPtA
set_option linter.unusedSimpArgs false
set_option linter.unusedVariables false
set_option maxRecDepth 100000
set_option maxHeartbeats 8000000
namespace Go.Proofs.YtidplkfhodpdhaaGreatDoor.tab
open Go.ChangeShapes Go.WideShapes Go.ChangeAt Go.RowKit kit dec val
open hyp (RowA TextsA CellsStay stay_of_below textsV textsV_length own_row OW)
structure JsW(w0 w wb wr:World)(rb N:Nat)(names rv:Value)(L:List (List V)):Prop where
 bl:Below wb.heap.size wb wr
 tb:Blk wr wb.heap.size #[names,rv] 25
 rj:RJ w0 wr (fun b=>b<w.heap.size∨b=rb∨b=wb.heap.size) N rv L
 low:∀g,rv.ownBlock=some g→wb.heap.size≤g
theorem JsW.start{w0 w wb:World}(hb:Below w0.heap.size w0 wb)(rb N:Nat)(names:Value):JsW w0 w wb (wb.alloc (.cells #[names,.slice none 0 0] 25)) rb N names (.slice none 0 0) []:=
 ⟨(Below.refl _ _).alloc (Nat.le_refl _) _,Blk.new _ _ _,RJ.nil (hb.alloc hb.size _),fun g h=>(by cases h)⟩
theorem JsW.stay{w0 w wb wr W:World}{rb N:Nat}{names rv:Value}{L:List (List V)}(h:JsW w0 w wb wr rb N names rv L)(hb:Below wr.heap.size wr W):JsW w0 w wb W rb N names rv L:=
 ⟨h.bl.trans (hb.mono h.bl.size),(hb.block _ h.tb.lt).trans h.tb,h.rj.stay hb,h.low⟩
theorem RJ.lt{w wr:World}{X:Nat→Prop}{N:Nat}{v:Value}{rs:List (List V)}(h:RJ w wr X N v rs):∀g,v.ownBlock=some g→w.heap.size≤g∧g<wr.heap.size:=by
 obtain⟨vs,F,h1,own,-⟩:=h.ex
 exact own.lt
theorem RJ.notX{w wr:World}{X:Nat→Prop}{N:Nat}{v:Value}{rs:List (List V)}(h:RJ w wr X N v rs):∀g,v.ownBlock=some g→¬X g:=by
 obtain⟨vs,F,h1,own,hF,hX,-⟩:=h.ex
 exact hX
theorem JsW.next{w0 w wb w8 w9:World}{rb N:Nat}{names rv v':Value}{L L':List (List V)}(h:JsW w0 w wb w8 rb N names rv L)(hw:w0.heap.size≤wb.heap.size)(hat:v'.ownBlock=rv.ownBlock∨v'.ownBlock=some w8.heap.size)(hR:RJ w0 w9 (fun b=>b<w.heap.size∨b=rb∨b=wb.heap.size) N v' L')(hg:w8.grownBy w9 rv.ownBlock):
 Blk w9 wb.heap.size #[names,rv] 25∧Below wb.heap.size wb w9∧JsW w0 w wb (w9.setCell ⟨wb.heap.size,1,none⟩ v') rb N names v' L':=by
 have h1:Blk w9 wb.heap.size #[names,rv] 25:=(hg.block _ h.tb.lt (fun e=>h.rj.notX _ e.symm (.inr (.inr rfl)))).trans h.tb
 have h2:=h.bl.grown hg h.bl.size h.low
 refine⟨h1,h2,h2.setCell (p:=⟨wb.heap.size,1,none⟩) (Nat.le_refl _) v',h1.set 1 v',hR.cell _ (.inr (.inr rfl)) hw 1 v',fun g hg2=>?_⟩
 rcases hat with e|e
 ·exact h.low g (by rw[←e];exact hg2)
 ·rw[e]at hg2
  injection hg2 with hg2
  have:=h.bl.size
  omega
def TabS(w0 w w':World)(N:Nat)(v:Value)(t:Tab):Prop:=
 Below w.heap.size w w'∧(∃a c a2 c2,v=.agg #[.slice a t.vars.length c,.slice a2 t.rows.length c2])∧∀W,Below w0.heap.size w0 W→w'.heap.size≤W.heap.size→(∀b,w.heap.size≤b→b<w'.heap.size→W.heap[b]? = w'.heap[b]?)→TabA W N v t
theorem tabS_zero{w0 w w':World}{N:Nat}(hb:Below w.heap.size w w'):TabS w0 w w' N (.agg #[.slice none 0 0,.slice none 0 0]) ⟨[],[]⟩:=
 ⟨hb,⟨none,0,none,0,rfl⟩,fun W _ _ _=>(tabO_zero (Below.refl _ _)).read⟩
theorem JsW.done{w0 w wb wr:World}{rb N:Nat}{names rv:Value}{vars:List ByteArray}{L:List (List V)}(h:JsW w0 w wb wr rb N names rv L)(h0:Below w0.heap.size w0 w)(hw:Below w.heap.size w wb)(hn:(∃B,w.heap.size≤B∧wb.ownsRow B 9 1 names vars.length (textsV vars))∨TextsA w0 w0.heap.size names vars)(hsz:∀s∈vars,s.size≤maxLen)(hrb:Blk wb rb #[.slice none 0 0,.slice none 0 0] 25)(hlow:w.heap.size≤rb):
 Blk ((wr.setCell ⟨rb,0,none⟩ names).setCell ⟨rb,1,none⟩ rv) rb #[names,rv] 25∧TabS w0 w ((wr.setCell ⟨rb,0,none⟩ names).setCell ⟨rb,1,none⟩ rv) N (.agg #[names,rv]) ⟨vars,L⟩:=by
 have hr1:Blk wr rb #[.slice none 0 0,.slice none 0 0] _:=(h.bl.block _ hrb.lt).trans hrb
 have hr2:=hr1.set 0 names
 have hr3:=hr2.set 1 rv
 have hbl:Below w.heap.size w ((wr.setCell ⟨rb,0,none⟩ names).setCell ⟨rb,1,none⟩ rv):=((hw.trans (h.bl.mono hw.size)).setCell (p:=⟨rb,0,none⟩) hlow names).setCell (p:=⟨rb,1,none⟩) hlow rv
 have hrj:=(h.rj.cell rb (.inr (.inl rfl)) (Nat.le_trans h0.size hlow) 0 names).cell rb (.inr (.inl rfl)) (Nat.le_trans h0.size hlow) 1 rv
 refine⟨hr3,hbl,?_,fun W hW hs hk=>⟨names,rv,rfl,?_,(hrj.keep hW hs (fun b hlt hX=>hk b (Nat.le_of_not_lt fun hl=>hX (.inl hl)) hlt)).read⟩⟩
 ·obtain⟨a2,c2,e2⟩:=h.rj.form
  have e1:∃a c,names=.slice a vars.length c:=by
   rcases hn with⟨B,_,own⟩|ht
   ·exact own_form4x own
   ·obtain⟨a,c,e,-⟩:=ht.form
    exact⟨a,c,e⟩
  obtain⟨a,c,e1⟩:=e1
  exact⟨a,c,a2,c2,by rw[e1,e2]⟩
 ·rcases hn with⟨B,hB,own⟩|ht
  ·have own2:=own_set (own_set (own_keep own h.bl) hr1 (by decide) 0 names) hr2 (by decide) 1 rv
   exact⟨own_row (by rw[textsV_length];exact val.own_stay own2 fun g hg=>hk g (Nat.le_trans hB (own2.lt g hg).1) (own2.lt g hg).2),hsz⟩
  ·exact TextsA.below ht hW
theorem rJoin_any (N : Nat) (hN : N ≤ 1048576) (w0 w : World) (h0 : Below w0.heap.size w0 w) (va vb : Value) (A B : Tab) (hA0 : TabA w0 N va A) (hB0 : TabA w0 N vb B) (mA : mayT A = true) (mB : mayT B = true) (ra9 : A.rows.length ≤ 1000) (rb9 : B.rows.length ≤ 1000) (hN64 : 128 ≤ N) :
 Calls Tryz.prog 11 #[va,vb] w fun e w'=>∃v,e=.returned v∧TabS w0 w w' N v (joinT A B):=by
 obtain⟨hnA,hrA⟩:=may_rows mA
 obtain⟨hnB,hrB⟩:=may_rows mB
 obtain⟨hA9,-,hdA⟩:=names_parts hnA
 obtain⟨hB9,-,hdB⟩:=names_parts hnB
 obtain⟨vv,rv,rfl,hV0,hR0⟩:=hA0.ex
 obtain⟨vv2,rv2,rfl,hV20,hR20⟩:=hB0.ex
 have hV:=TextsA.below hV0 h0
 have hV2:=TextsA.below hV20 h0
 have hR:=hR0.stay h0
 have hR2:=hR20.stay h0
 obtain⟨av,cv,rfl,-⟩:=hV.form
 obtain⟨av2,cv2,rfl,-⟩:=hV2.form
 obtain⟨ar,cr,rfl,-,hrc⟩:=hR0.form
 obtain⟨ar2,cr2,rfl,-,hrc2⟩:=hR20.form
 have hal:Below w.heap.size w (((w.alloc (.cells #[.slice av A.vars.length cv,.slice ar A.rows.length cr] 25)).alloc (.cells #[.slice av2 B.vars.length cv2,.slice ar2 B.rows.length cr2] 25)).alloc (.cells #[.slice none 0 0,.slice none 0 0] 25)):=
  (((Below.refl _ _).alloc (Nat.le_refl _) _).alloc (by rw[World.size_alloc];omega) _).alloc (by rw[World.size_alloc,World.size_alloc];omega) _
 have hq0:=((Blk.new w #[.slice av A.vars.length cv,.slice ar A.rows.length cr] 25).alloc (.cells #[.slice av2 B.vars.length cv2,.slice ar2 B.rows.length cr2] 25)).alloc (.cells #[.slice none 0 0,.slice none 0 0] 25)
 have hq1:=(Blk.new (w.alloc (.cells #[.slice av A.vars.length cv,.slice ar A.rows.length cr] 25)) #[.slice av2 B.vars.length cv2,.slice ar2 B.rows.length cr2] 25).alloc (.cells #[.slice none 0 0,.slice none 0 0] 25)
 have hq2:=Blk.new ((w.alloc (.cells #[.slice av A.vars.length cv,.slice ar A.rows.length cr] 25)).alloc (.cells #[.slice av2 B.vars.length cv2,.slice ar2 B.rows.length cr2] 25)) #[.slice none 0 0,.slice none 0 0] 25
 rw[World.size_alloc]at hq1 hq2
 rw[World.size_alloc]at hq2
 obtain⟨w1,hw1⟩:∃w1,(((w.alloc (.cells #[.slice av A.vars.length cv,.slice ar A.rows.length cr] 25)).alloc (.cells #[.slice av2 B.vars.length cv2,.slice ar2 B.rows.length cr2] 25)).alloc (.cells #[.slice none 0 0,.slice none 0 0] 25))=w1:=⟨_,rfl⟩
 have hs1:w1.heap.size=w.heap.size+3:=by rw[←hw1];simp
 rw[hw1]at hal hq0 hq1 hq2
 have cB:=Hd (rBoth_any w1 _ _ A.vars B.vars (TextsA.below hV hal) (TextsA.below hV2 hal) hdB (by omega) (by omega))
 have x0:=hq0.cell 0 rfl
 have x1:=hq0.cell 1 rfl
 have y0:=hq1.cell 0 rfl
 have y1:=hq1.cell 1 rfl
 have hsA:=Hd hV.size
 have hsB:=Hd hV2.size
 have hfl:=foldN_len B.vars A.vars
 have hVh:=Hd hV
 have hV0h:=Hd hV0
 have hV20h:=Hd hV20
 have hV2h:=Hd hV2
 replace hrc:=Hd hrc
 replace hrc2:=Hd hrc2
 replace hal:=Hd hal
 replace hq2:=Hd hq2
 replace hw1:=Hd hw1
 replace hs1:=Hd hs1
 have h0h:=Hd h0
 replace hdA:=Hd hdA
 replace hdB:=Hd hdB
 replace hrA:=Hd hrA
 replace hrB:=Hd hrB
 clear hA0 hB0 hV hV2 hR hR2 hV0 hV20 hR0 hR20 hq0 hq1 mA mB hnA hnB
 obtain⟨jt,hjt⟩:∃jt,joinT A B=jt:=⟨_,rfl⟩
 rw[hjt]
 have hj1:Hid (64<(B.vars.foldl addN A.vars).length→jt=⟨[],[]⟩):=Hd fun h=>by rw[←hjt];unfold joinT;rw[if_neg (by omega)]
 have hj2:Hid ((B.vars.foldl addN A.vars).length≤64→jt=⟨B.vars.foldl addN A.vars,joinRows A B⟩):=Hd fun h=>by rw[←hjt];unfold joinT;rw[if_pos h]
 clear hjt
 go_enter Tryz.func11,Tryz.ntmps11
 go_wp2_with fail
 rw[hw1.out]
 refine cB.out.mono ?_
 rintro e wb ⟨u,rfl,hO⟩
 clear cB
 have hb2:=hO.below
 have own2:Hid (wb.ownsRow w1.heap.size 9 1 u (B.vars.foldl addN A.vars).length (textsV (B.vars.foldl addN A.vars))):=Hd (by have:=hO.own;rw[textsV_length]at this;exact this)
 obtain⟨an,cn,rfl⟩:=own_form4x own2.out
 have hBw:=Hd (hal.out.trans (hb2.mono hal.out.size))
 have hq2b:Hid (Blk wb (w.heap.size+1+1) #[.slice none 0 0,.slice none 0 0] 25):=Hd ((hb2.block _ hq2.out.lt).trans hq2.out)
 replace x0:=sB hb2 x0
 replace x1:=sB hb2 x1
 replace y0:=sB hb2 y0
 replace y1:=sB hb2 y1
 have hws:=hBw.out.size
 have hB0w:=Hd (h0.trans (hBw.out.mono h0.size))
 have hw0s:=hB0w.out.size
 have hsz:∀s∈B.vars.foldl addN A.vars,s.size≤maxLen:=fun s hs=>by
  rcases(mem_foldN B.vars A.vars).1 hs with h|h
  ·exact hsA.out s h
  ·exact hsB.out s h
 have hsz2:=Hd hsz
 have hT2:=Hd (⟨own_row (by rw[textsV_length];exact own2.out),hsz⟩:TextsA wb wb.heap.size (.slice an (B.vars.foldl addN A.vars).length cn) (B.vars.foldl addN A.vars))
 have hJ0:=Hd (JsW.start (w:=w) hB0w.out (w.heap.size+1+1) N (.slice an (B.vars.foldl addN A.vars).length cn))
 rw[←rowsIJ_zero A B]at hJ0
 have hRA:Hid (∀j (hj:j<A.rows.length),∃b off a c,ar=some ⟨b,off,none⟩∧wb.cell? ⟨b,off+j,none⟩=some (.slice a A.rows[j].length c)∧LA w0 N (.slice a A.rows[j].length c) A.rows[j]):=Hd fun j hj=>by
  obtain⟨b,off,a,c,h1,h2,h3,h4⟩:=hrc.out j hj
  exact⟨b,off,a,c,h1,sB hBw.out (sB h0 h3),h4⟩
 have hRB:Hid (∀j (hj:j<B.rows.length),∃b off a c,ar2=some ⟨b,off,none⟩∧wb.cell? ⟨b,off+j,none⟩=some (.slice a B.rows[j].length c)∧LA w0 N (.slice a B.rows[j].length c) B.rows[j]):=Hd fun j hj=>by
  obtain⟨b,off,a,c,h1,h2,h3,h4⟩:=hrc2.out j hj
  exact⟨b,off,a,c,h1,sB hBw.out (sB h0 h3),h4⟩
 have hVb:=Hd (TextsA.below hVh.out hBw.out)
 have hV2b:=Hd (TextsA.below hV2h.out hBw.out)
 clear hO hb2 hal hq2 hrc hrc2
 obtain⟨F,hF⟩:∃F,B.vars.foldl addN A.vars=F:=⟨_,rfl⟩
 rw[hF]at hj1 hj2 hJ0 hT2 hfl own2 hsz2 ⊢
 clear hsz
 replace hF:=Hd hF
 go_upto_region 2 with fail
 have t0:=hJ0.out.tb.cell 0 rfl
 have t1:=hJ0.out.tb.cell 1 rfl
 have hal3:Below wb.heap.size wb (wb.alloc (.cells #[.slice an F.length cn,.slice none 0 0] 25)):=(Below.refl _ _).alloc (Nat.le_refl _) _
 have x0':=sB hal3 x0
 have x1':=sB hal3 x1
 have y0':=sB hal3 y0
 have y1':=sB hal3 y1
 have hq3:Blk (wb.alloc (.cells #[.slice an F.length cn,.slice none 0 0] 25)) (w.heap.size+1+1) _ _:=(hal3.block _ hq2b.out.lt).trans hq2b.out
 by_cases h64:64<F.length
 ·have h64i:(64:Int)<(F.length:Int):=by omega
  have hz:=Hd (hj1.out h64)
  have hB3:=hBw.out.trans (hal3.mono hws)
  have hfin:=Hd ((hq3.set 0 (.slice none 0 0)).set 1 (.slice none 0 0))
  have hbf:=Hd ((hB3.setCell (p:=⟨w.heap.size+1+1,0,none⟩) (by simp;omega) (.slice none 0 0)).setCell (p:=⟨w.heap.size+1+1,1,none⟩) (by simp;omega) (.slice none 0 0))
  have f1:=Blk.free hq3
  have g0:=hq3.cell 0 rfl
  have g1:=hq3.cell 1 rfl
  generalize wb.alloc (.cells #[.slice an F.length cn,.slice none 0 0] 25)=w3 at *
  clear hal3 hB3 hq3 hJ0 x0 x1 y0 y1
  go_wp2
  refine bodyPost_ret (v:=.agg #[.slice none 0 0,.slice none 0 0]) (results_cell_row rfl _ _ (w.heap.size+1+1) 25 _ (0,0) _ rfl hfin.out.eq Tryz.underlying25 rfl infoTab) rfl ⟨_,rfl,?_⟩
  rw[hz.out]
  exact tabS_zero hbf.out
 have h64i:¬(64:Int)<(F.length:Int):=by omega
 have hz:=Hd (hj2.out (by omega))
 have hx0:=Hd x0
 have hx1:=Hd x1
 have hy0:=Hd y0
 have hy1:=Hd y1
 have hq2lt:=Hd hq2b.out.lt
 generalize wb.alloc (.cells #[.slice an F.length cn,.slice none 0 0] 25)=w3 at *
 clear hal3 hq3 x0 x1 y0 y1 hj1 hj2
 go_wp2
 go_loopw [6] (fun i wr=>∃(k:Nat) (rv:Value),k≤A.rows.length∧i=.int .i64 (k:Int)∧Hid (JsW w0 w wb wr (w.heap.size+1+1) N (.slice an F.length cn) rv (rowsIJ A B k 0))) (fun i _=>A.rows.length-(intOf i).toNat)
 case atStart=>exact⟨0,_,Nat.zero_le _,rfl,hJ0⟩
 case round =>
  clear hJ0 x0' x1' y0' y1' t0 t1
  obtain⟨i,rv,hi,rfl,hJ⟩:=hrel
  obtain⟨w4,rfl⟩:∃w4:World,w4=wr:=⟨_,rfl⟩
  have hbj:=hJ.out.bl
  have x0':=sB hbj hx0.out
  have x1':=sB hbj hx1.out
  have y0':=sB hbj hy0.out
  have y1':=sB hbj hy1.out
  by_cases hlt:i<A.rows.length
  ·have hki : (i : Int) < (A.rows.length : Int) := by omega
   have hi1:=Hd (show i+1≤A.rows.length from hlt)
   obtain⟨b1,o1,a1,c1,rfl,hc1,hla1⟩:=hRA.out i hlt
   have hnext:=Hd (rowsIJ_next A B hlt)
   have hrw:=hrA.out _ (List.getElem_mem hlt)
   replace hc1:=Hd hc1
   replace hla1:=Hd hla1
   clear hbj
   go_wp2
   go_loopw [7] (fun j wr=>∃(k:Nat) (rv:Value),k≤B.rows.length∧j=.int .i64 (k:Int)∧Hid (JsW w0 w wb wr (w.heap.size+1+1) N (.slice an F.length cn) rv (rowsIJ A B i k))) (fun j _=>B.rows.length-(intOf j).toNat)
   case atStart=>exact⟨0,_,Nat.zero_le _,rfl,hJ⟩
   case round =>
    clear hJ x0' x1' y0' y1'
    obtain⟨j,rv,hj,rfl,hJ⟩:=hrel
    obtain⟨w5,rfl⟩:∃w5:World,w5=wr:=⟨_,rfl⟩
    have hbj:=hJ.out.bl
    have x0':=sB hbj hx0.out
    have x1':=sB hbj hx1.out
    have y0':=sB hbj hy0.out
    have y1':=sB hbj hy1.out
    by_cases hlj:j<B.rows.length
    ·have hkj:(j:Int)<(B.rows.length:Int):=by omega
     have hj1:=Hd (show j+1≤B.rows.length from hlj)
     obtain⟨b2,o2,a3,c3,rfl,hc2,hla2⟩:=hRB.out j hlj
     have hrs:=hrB.out _ (List.getElem_mem hlj)
     have hyes:=Hd (rowsIJ_yes A B hlt hlj)
     have hno:=Hd (rowsIJ_no A B hlt hlj)
     have hlen:(rowsIJ A B i j).length+1≤1048576:=by
      have h1:=rowsIJ_len A B i j hlt hj
      have h2:=Nat.mul_le_mul ra9 rb9
      have h3:=Nat.mul_le_mul_right B.rows.length (show i+1≤A.rows.length from hlt)
      rw[Nat.succ_mul]at h3
      omega
     have hrl:=row_len hrw
     have hsl:=row_len hrs
     have hdr0:Below w5.heap.size w5 w5.drew:=below_drewN (Below.refl _ _) 1
     have hdr:Below wb.heap.size wb w5.drew:=hbj.trans (hdr0.mono hbj.size)
     have hJd:=Hd (hJ.out.stay hdr0)
     have cF:=Hd (rFits_any N hN w5.drew _ _ _ _ A.vars B.vars (A.rows[i]'hlt) (B.rows[j]'hlj) (TextsA.below hVb.out hdr) (TextsA.below hV2b.out hdr) hdA.out (hla1.out.stay (hB0w.out.trans (hdr.mono hB0w.out.size))) (hla2.stay (hB0w.out.trans (hdr.mono hB0w.out.size))) hrl hsl (by omega) (by omega))
     have cJ:=Hd (fun V (h:Below wb.heap.size wb V)=>rJoined_any N hN w0 V (hB0w.out.trans (h.mono hB0w.out.size)) _ _ _ _ _ F A.vars B.vars (A.rows[i]'hlt) (B.rows[j]'hlj) (TextsA.below hT2.out h) hV0h.out hla1.out hV20h.out hla2 hrl hsl (by omega) (by omega) (by omega))
     have hjr:Hid (F.map (fun x=>orN (cellF A.vars (A.rows[i]'hlt) x) (cellF B.vars (B.rows[j]'hlj) x))=joinR A.vars B.vars (A.rows[i]'hlt) (B.rows[j]'hlj)):=Hd (by unfold joinR;rw[hF.out])
     generalize rowsIJ A B i j=L1 at *
     generalize hL2:rowsIJ A B i (j+1)=L2 at *
     generalize (A.rows[i]'hlt)=r at *
     generalize (B.rows[j]'hlj)=s at *
     replace hL2:=Hd hL2
     replace hc2:=Hd hc2
     clear hla2 hrs hrl hsl hJ
     go_upto_region 10 with fail
     refine wp_region_held_drew (S:=fun V=>Below wb.heap.size wb V) (by kernel_rfl) hdr (fun hS=>?_)
     generalize w5.drew=V0 at *
     refine tkS [0,1,2,3,4,5,6,7,8,9,10,11,12,13] ?_
     iterate 14
      refine tkC ?_ rfl (fun w' hS=>?_) hS ?_
      rotate_left
      ·
       have p0:=sB hS hx0.out;have p1:=sB hS hx1.out;have p2:=sB hS hy0.out;have p3:=sB hS hy1.out;have p4:=sB hS hc1.out;have p5:=sB hS hc2.out
       go_simp
       try with_reducible rfl
     refine rdH 14 rfl (fun K hK=>?_)
     clear hS
     go_simp
     refine(cF.out).mono ?_
     rintro e w6 ⟨rfl,hb6⟩
     go_wp2_with fail
     refine hKo hK (hdr.trans (hb6.mono hdr.size)) (fun hS=>?_)
     clear hK K
     have hJ6:=Hd (hJd.out.stay hb6)
     refine tkS [15,16,17,18,19] ?_
     iterate 5
      refine tkC ?_ rfl (fun w' hS=>?_) hS ?_
      rotate_left
      ·
       skip
       go_simp
       try with_reducible rfl
     refine wpAnyH_done (by kernel_rfl) ?_ _
     clear hS cF hb6 hdr hdr0 hJd x0' x1' y0' y1' hbj
     generalize shared A.vars B.vars r s=sh at *
     cases hc:compat A.vars B.vars r s with
     |false=>
      have h2:=hno.out hc
      rw[←h2]at hJ6
      replace hc:=Hd hc
      clear h2 hyes hno cJ
      go_wp2
      go_roundw
      case rel=>exact⟨j+1,_,hj1.out,by go_num,by rw[hL2.out];exact hJ6⟩
      case measure=>have:=hj1.out;simp[intOf];omega
     | true =>
      have h2:=Hd (hyes.out hc)
      replace hc:=Hd hc
      clear hyes hno
      go_upto_region 12 with fail
      have hal:Below w6.heap.size w6 w6.drew:=below_drewN (Below.refl _ _) 1
      have hJV:=hJ6.out.stay hal
      have hS0:Blk w6.drew wb.heap.size #[.slice an F.length cn,rv] 25∧Below wb.heap.size wb w6.drew:=⟨hJV.tb,hJV.bl⟩
      have cJV:=cJ.out _ hJV.bl
      rw[hjr.out]at cJV
      replace cJV:=Hd cJV
      refine wp_region_late [22] (S:=fun V=>Blk V wb.heap.size #[.slice an F.length cn,rv] 25∧Below wb.heap.size wb V) (by kernel_rfl) hS0 (fun hS=>?_)
      generalize w6.drew=V0 at *
      clear hS0 hal cJ hJ6
      generalize joinR A.vars B.vars r s=x at *
      refine tlS [0,1,2,3,4,5,6,7,8,9,10,11,12,13,14,15,16,17] ?_
      iterate 18
       refine tlC ?_ rfl (fun w' hS=>?_) hS ?_
       rotate_left
       ·
        have z0:=hS.1.cell 0 rfl;have z1:=hS.1.cell 1 rfl;have p0:=sB hS.2 hx0.out;have p1:=sB hS.2 hx1.out;have p2:=sB hS.2 hy0.out;have p3:=sB hS.2 hy1.out;have p4:=sB hS.2 hc1.out;have p5:=sB hS.2 hc2.out
        go_simp
        try with_reducible rfl
      refine wpAnyL_ready (i:=18) (by kernel_rfl) rfl (fun K hK=>?_)
      clear hS
      go_simp
      refine(cJV.out).mono ?_
      rintro e w7 ⟨vj,rfl,hRob⟩
      go_wp2_with fail
      refine hKo hK (⟨(hRob.below.block _ hJV.tb.lt).trans hJV.tb,hJV.bl.trans (hRob.below.mono hJV.bl.size)⟩) (fun hS=>?_)
      clear hK K
      obtain⟨a9,c9,hvj⟩:=hRob.form
      subst hvj
      have hJ7:=hJV.stay hRob.below
      have hlt7:=hJV.rj.lt
      have htb7:=hJV.tb.lt
      have hV7:=hJV.bl.size
      have hRs:=hRob.below.size
      clear cJV hJV
      refine wpAnyL_ready (i:=19) (by kernel_rfl) rfl (fun K hK=>?_)
      clear hS
      go_simp
      go_wp2_with fail
      have hal8:=((Below.refl w7.heap.size w7).alloc (Nat.le_refl _) (.cells #[.slice a9 x.length c9] 37))
      have hJ8:=hJ7.stay hal8
      have hs8:=World.size_alloc w7 (.cells #[.slice a9 x.length c9] 37)
      have hn8:(w7.alloc (.cells #[.slice a9 x.length c9] 37)).cell? ⟨w7.heap.size,0,none⟩=some (.slice a9 x.length c9):=(Blk.new w7 #[.slice a9 x.length c9] 37).cell 0 rfl
      refine hKo hK ⟨hJ8.tb,hJ8.bl⟩ (fun hS=>?_)
      clear hK K hJ7
      refine wpAnyL_ready (i:=20) (by kernel_rfl) rfl (fun K hK=>?_)
      clear hS
      refine wp_pushS (.tmp 55) (.tmp 73) rfl w0 (fun b=>b<w.heap.size∨b=w.heap.size+1+1∨b=wb.heap.size) N _ _ rfl hJ8.rj w7.heap.size x (.slice a9 x.length c9) rfl hn8 rfl (fun b=>V0.heap.size≤b∧b<w7.heap.size) ?d1 ?d2 ?d3 hlen ?d4
      case d1=>exact fun b hb=>⟨by have:=hb.1;omega,by rw[hs8];have:=hb.2;omega,fun e=>by have:=(hlt7 b e).2;have:=hb.1;omega,fun hX=>by have:=hb.1;have:=hq2lt.out;omega⟩
      case d2=>exact RobR.made hRob _ _ (fun b h1 h2=>⟨h1,h2⟩) (fun b h=>hal8.block b h)
      case d3=>exact fun b hX=>by have h9:=hJ8.tb.lt;have:=hq2lt.out;omega
      intro v' w9 hR9 hg9 hat9
      obtain⟨ao9,cap9,hv9⟩:=hR9.form
      rw[List.length_append,List.length_singleton]at hv9
      subst hv9
      obtain⟨htb9,hbl9,hJ9⟩:=hJ8.next hw0s hat9 hR9 hg9
      refine hKo hK ⟨htb9,hbl9⟩ (fun hS=>?_)
      clear hK K hJ8 hn8 hR9 hg9 hRob hal8
      refine tlH 21 ?_ rfl (fun w' hS=>?_) hS ?_
      rotate_left
      ·
       skip
       go_simp
       try with_reducible rfl
      refine wpAnyL_late (i:=22) (by kernel_rfl) rfl (by kernel_rfl) (fun K hK=>?_)
      clear hS
      have f1:=htb9.free 1
      have z0:=htb9.cell 0 rfl
      have z1:=htb9.cell 1 rfl
      replace hJ9:=Hd hJ9
      go_simp
      go_wp2_with fail
      refine hK.out _ _ ?_
      clear hK K f1 htb9 z0 z1
      try simp only[List.getElem_toArray,List.getElem_cons_succ,List.getElem_cons_zero,Act.put,List.setIfInBounds_toArray,List.set_cons_zero,List.set_cons_succ]
      refine wpAnyL_done (by kernel_rfl) ?_ _
      rw[←h2.out]at hJ9
      go_wp2
      go_roundw
      case rel=>exact⟨j+1,_,hj1.out,by go_num,by rw[hL2.out];exact hJ9⟩
      case measure=>have:=hj1.out;simp[intOf];omega
    ·have hkj:¬(j:Int)<(B.rows.length:Int):=by omega
     obtain rfl:j=B.rows.length:=by omega
     rw[←hnext.out]at hJ
     go_wp2
     go_roundw
     case rel=>exact⟨i+1,_,hi1.out,by go_num,hJ⟩
     case measure=>have:=hi1.out;simp[intOf];omega
  ·have hki:¬(i:Int)<(A.rows.length:Int):=by omega
   obtain rfl:i=A.rows.length:=by omega
   rw[rowsIJ_end]at hJ
   have hd:=Hd (hJ.out.done h0h.out hBw.out (.inl ⟨_,by have:=hs1.out;omega,own2.out⟩) hsz2.out hq2b.out (by omega))
   have z0:=hJ.out.tb.cell 0 rfl
   have z1:=hJ.out.tb.cell 1 rfl
   have hrb5:Blk w4 (w.heap.size+1+1) #[.slice none 0 0,.slice none 0 0] 25:=(hbj.block _ hq2lt.out).trans hq2b.out
   have f1:=Blk.free hrb5
   have g0:=hrb5.cell 0 rfl
   have g1:=hrb5.cell 1 rfl
   obtain⟨ao9,cap9,hrv⟩:=hJ.out.rj.form
   subst hrv
   clear hrb5 hbj y0' y1'
   go_wp2
   refine bodyPost_ret (v:=.agg #[.slice an F.length cn,.slice ao9 (joinRows A B).length cap9]) (results_cell_row rfl _ _ (w.heap.size+1+1) 25 _ (0,0) _ rfl hd.out.1.eq Tryz.underlying25 rfl infoTab) rfl ⟨_,rfl,by rw[hz.out];exact hd.out.2⟩
def anyK(A B:List ByteArray)(bd:Bool)(S:List (List V))(r:List V)(k:Nat):Bool:=(S.take k).any fun s=>compat A B r s&&(shared A B r s||!bd)
theorem anyK_step{A B:List ByteArray}{bd:Bool}{S:List (List V)}{r:List V}{k:Nat}(h:k<S.length):anyK A B bd S r (k+1)=(anyK A B bd S r k||(compat A B r S[k]&&(shared A B r S[k]||!bd))):=by
 unfold anyK
 rw[List.take_succ_eq_append_getElem h,List.any_append]
 simp
theorem anyK_end(A B:List ByteArray)(bd:Bool)(S:List (List V))(r:List V):anyK A B bd S r S.length=foundB A B bd S r:=by unfold anyK foundB;rw[List.take_length]
theorem rMinus_any (N : Nat) (hN : N ≤ 1048576) (w0 w : World) (h0 : Below w0.heap.size w0 w) (va vb : Value) (A B : Tab) (hA0 : TabA w0 N va A) (hB0 : TabA w0 N vb B) (mA : mayT A = true) (mB : mayT B = true) (ra9 : A.rows.length ≤ 1000) (rb9 : B.rows.length ≤ 1000) (hN64 : 128 ≤ N) :
 Calls Tryz.prog 12 #[va,vb] w fun e w'=>∃v,e=.returned v∧TabS w0 w w' N v (someT A B false true):=by
 obtain⟨hnA,hrA⟩:=may_rows mA
 obtain⟨hnB,hrB⟩:=may_rows mB
 obtain⟨hA9,-,hdA⟩:=names_parts hnA
 obtain⟨hB9,-,hdB⟩:=names_parts hnB
 obtain⟨vv,rv,rfl,hV0,hR0⟩:=hA0.ex
 obtain⟨vv2,rv2,rfl,hV20,hR20⟩:=hB0.ex
 have hV:=TextsA.below hV0 h0
 have hV2:=TextsA.below hV20 h0
 obtain⟨av,cv,rfl,-⟩:=hV.form
 obtain⟨av2,cv2,rfl,-⟩:=hV2.form
 obtain⟨ar,cr,rfl,-,hrc⟩:=hR0.form
 obtain⟨ar2,cr2,rfl,-,hrc2⟩:=hR20.form
 have hal:Below w.heap.size w (((w.alloc (.cells #[.slice av A.vars.length cv,.slice ar A.rows.length cr] 25)).alloc (.cells #[.slice av2 B.vars.length cv2,.slice ar2 B.rows.length cr2] 25)).alloc (.cells #[.slice none 0 0,.slice none 0 0] 25)):=
  (((Below.refl _ _).alloc (Nat.le_refl _) _).alloc (by rw[World.size_alloc];omega) _).alloc (by rw[World.size_alloc,World.size_alloc];omega) _
 have hq0:=((Blk.new w #[.slice av A.vars.length cv,.slice ar A.rows.length cr] 25).alloc (.cells #[.slice av2 B.vars.length cv2,.slice ar2 B.rows.length cr2] 25)).alloc (.cells #[.slice none 0 0,.slice none 0 0] 25)
 have hq1:=(Blk.new (w.alloc (.cells #[.slice av A.vars.length cv,.slice ar A.rows.length cr] 25)) #[.slice av2 B.vars.length cv2,.slice ar2 B.rows.length cr2] 25).alloc (.cells #[.slice none 0 0,.slice none 0 0] 25)
 have hq2:=Blk.new ((w.alloc (.cells #[.slice av A.vars.length cv,.slice ar A.rows.length cr] 25)).alloc (.cells #[.slice av2 B.vars.length cv2,.slice ar2 B.rows.length cr2] 25)) #[.slice none 0 0,.slice none 0 0] 25
 rw[World.size_alloc]at hq1 hq2
 rw[World.size_alloc]at hq2
 obtain⟨wb,hw1⟩:∃w1,(((w.alloc (.cells #[.slice av A.vars.length cv,.slice ar A.rows.length cr] 25)).alloc (.cells #[.slice av2 B.vars.length cv2,.slice ar2 B.rows.length cr2] 25)).alloc (.cells #[.slice none 0 0,.slice none 0 0] 25))=w1:=⟨_,rfl⟩
 have hs1:wb.heap.size=w.heap.size+3:=by rw[←hw1];simp
 rw[hw1]at hal hq0 hq1 hq2
 have hx0:=Hd (hq0.cell 0 rfl)
 have hx1:=Hd (hq0.cell 1 rfl)
 have hy0:=Hd (hq1.cell 0 rfl)
 have hy1:=Hd (hq1.cell 1 rfl)
 have hBw:=Hd hal
 have hws:=hal.size
 have hB0w:=Hd (h0.trans (hal.mono h0.size))
 have hw0s:=hB0w.out.size
 have h0h:=Hd h0
 have hJ0:=Hd (JsW.start (w:=w) hB0w.out (w.heap.size+1+1) N (.slice av A.vars.length cv))
 rw[←someK_zero A B false true]at hJ0
 have hRA:Hid (∀j (hj:j<A.rows.length),∃b off a c,ar=some ⟨b,off,none⟩∧wb.cell? ⟨b,off+j,none⟩=some (.slice a A.rows[j].length c)∧LA w0 N (.slice a A.rows[j].length c) A.rows[j]):=Hd fun j hj=>by
  obtain⟨b,off,a,c,h1,h2,h3,h4⟩:=hrc j hj
  exact⟨b,off,a,c,h1,sB hal (sB h0 h3),h4⟩
 have hRB:Hid (∀j (hj:j<B.rows.length),∃b off a c,ar2=some ⟨b,off,none⟩∧wb.cell? ⟨b,off+j,none⟩=some (.slice a B.rows[j].length c)∧LA w0 N (.slice a B.rows[j].length c) B.rows[j]):=Hd fun j hj=>by
  obtain⟨b,off,a,c,h1,h2,h3,h4⟩:=hrc2 j hj
  exact⟨b,off,a,c,h1,sB hal (sB h0 h3),h4⟩
 obtain⟨jt,hjt⟩:∃jt,someT A B false true=jt:=⟨_,rfl⟩
 rw[hjt]
 have hz:Hid (jt=⟨A.vars,someK A B false true A.rows.length⟩):=Hd (by rw[←hjt,someK_all];rfl)
 have hVh:=Hd hV
 have hV2h:=Hd hV2
 have hV0h:=Hd hV0
 clear hV0
 have hq2b:=Hd hq2
 have hq2lt:=Hd hq2.lt
 have t0:=hJ0.out.tb.cell 0 rfl
 have t1:=hJ0.out.tb.cell 1 rfl
 have x0':=sB hJ0.out.bl hx0.out
 have x1':=sB hJ0.out.bl hx1.out
 have x0:=hx0.out
 replace hs1:=Hd hs1
 replace hw1:=Hd hw1
 replace hdA:=Hd hdA
 replace hdB:=Hd hdB
 replace hrA:=Hd hrA
 replace hrB:=Hd hrB
 clear hA0 hB0 hV hV2 hR0 hR20 hV20 hq0 hq1 hq2 mA mB hnA hnB hrc hrc2 hal hjt
 go_enter Tryz.func12,Tryz.ntmps12
 go_upto_region 1 with fail
 rw[hw1.out]
 go_upto_region 2 with fail
 generalize wb.alloc (.cells #[.slice av A.vars.length cv,.slice none 0 0] 25)=w3 at *
 clear x0
 go_wp2
 go_loopw [6] (fun i wr=>∃(k:Nat) (rv:Value),k≤A.rows.length∧i=.int .i64 (k:Int)∧Hid (JsW w0 w wb wr (w.heap.size+1+1) N (.slice av A.vars.length cv) rv (someK A B false true k))) (fun i _=>A.rows.length-(intOf i).toNat)
 case atStart=>exact⟨0,_,Nat.zero_le _,rfl,hJ0⟩
 case round =>
  clear hJ0 x0' x1' t0 t1
  obtain⟨i,rv,hi,rfl,hJ⟩:=hrel
  obtain⟨w4,rfl⟩:∃w4:World,w4=wr:=⟨_,rfl⟩
  have hbj:=hJ.out.bl
  have x1':=sB hbj hx1.out
  have y1':=sB hbj hy1.out
  by_cases hlt:i<A.rows.length
  ·have hki : (i : Int) < (A.rows.length : Int) := by omega
   have hi1:=Hd (show i+1≤A.rows.length from hlt)
   obtain⟨b1,o1,a1,c1,rfl,hc1,hla1⟩:=hRA.out i hlt
   have hrw:=hrA.out _ (List.getElem_mem hlt)
   have hyes:=Hd (fun h=>someK_yes (a:=A) (b:=B) (has:=false) (bd:=true) hlt h)
   have hno:=Hd (fun h=>someK_no (a:=A) (b:=B) (has:=false) (bd:=true) hlt h)
   have hlen:(someK A B false true i).length+1≤1048576:=by have:=someK_len A B false true i hi;omega
   have hrl0:=row_len hrw
   generalize someK A B false true i=L1 at *
   generalize hL2:someK A B false true (i+1)=L2 at *
   generalize (A.rows[i]'hlt)=r at *
   replace hL2:=Hd hL2
   replace hc1:=Hd hc1
   replace hla1:=Hd hla1
   replace hlen:=Hd hlen
   have hrl:=Hd hrl0
   clear hbj hrl0 hrw
   go_wp2
   go_loopw [7,8] (fun v7 j wr=>∃(k:Nat),k≤B.rows.length∧j=.int .i64 (k:Int)∧v7=.bool (anyK A.vars B.vars true B.rows r k)∧Hid (JsW w0 w wb wr (w.heap.size+1+1) N (.slice av A.vars.length cv) rv L1)) (fun _ j _=>B.rows.length-(intOf j).toNat)
   case atStart=>exact⟨0,Nat.zero_le _,rfl,rfl,hJ⟩
   case round =>
    clear hJ x1' y1'
    obtain⟨j,hj,rfl,rfl,hJ⟩:=hrel
    obtain⟨w5,rfl⟩:∃w5:World,w5=wr:=⟨_,rfl⟩
    have hbj:=hJ.out.bl
    have x0':=sB hbj hx0.out
    have x1':=sB hbj hx1.out
    have y0':=sB hbj hy0.out
    have y1':=sB hbj hy1.out
    obtain⟨g,hg⟩:∃g,anyK A.vars B.vars true B.rows r j=g:=⟨_,rfl⟩
    by_cases hlj:j<B.rows.length
    ·have hkj:(j:Int)<(B.rows.length:Int):=by omega
     have hj1:=Hd (show j+1≤B.rows.length from hlj)
     obtain⟨b2,o2,a3,c3,rfl,hc2,hla2⟩:=hRB.out j hlj
     have hrs:=hrB.out _ (List.getElem_mem hlj)
     have hst:=anyK_step (A:=A.vars) (B:=B.vars) (bd:=true) (r:=r) hlj
     have hsl:=row_len hrs
     have hdr0:Below w5.heap.size w5 w5.drew:=below_drewN (Below.refl _ _) 1
     have hdr:Below wb.heap.size wb w5.drew:=hbj.trans (hdr0.mono hbj.size)
     have hJd:=Hd (hJ.out.stay hdr0)
     have hdw:=hBw.out.trans (hdr.mono hBw.out.size)
     have cF:=Hd (rFits_any N hN w5.drew _ _ _ _ A.vars B.vars r (B.rows[j]'hlj) (TextsA.below hVh.out hdw) (TextsA.below hV2h.out hdw) hdA.out (hla1.out.stay (h0h.out.trans (hdw.mono h0h.out.size))) (hla2.stay (h0h.out.trans (hdw.mono h0h.out.size))) hrl.out hsl (by omega) (by omega))
     rw[hg]at hst ⊢
     replace hg:=Hd hg
     generalize hA2:anyK A.vars B.vars true B.rows r (j+1)=g2 at *
     generalize (B.rows[j]'hlj)=s at *
     replace hA2:=Hd hA2
     replace hc2:=Hd hc2
     replace hst:=Hd hst
     clear hla2 hrs hsl hJ hdw
     go_upto_region 9 with fail
     refine wp_region_held_drew (S:=fun V=>Below wb.heap.size wb V) (by kernel_rfl) hdr (fun hS=>?_)
     generalize w5.drew=V0 at *
     refine tkS [0,1,2,3,4,5,6,7,8,9,10,11,12,13] ?_
     iterate 14
      refine tkC ?_ rfl (fun w' hS=>?_) hS ?_
      rotate_left
      ·
       have p0:=sB hS hx0.out;have p1:=sB hS hx1.out;have p2:=sB hS hy0.out;have p3:=sB hS hy1.out;have p4:=sB hS hc1.out;have p5:=sB hS hc2.out
       go_simp
       try with_reducible rfl
     refine rdH 14 rfl (fun K hK=>?_)
     clear hS
     go_simp
     refine(cF.out).mono ?_
     rintro e w6 ⟨rfl,hb6⟩
     go_wp2_with fail
     refine hKo hK (hdr.trans (hb6.mono hdr.size)) (fun hS=>?_)
     clear hK K
     have hJ6:=Hd (hJd.out.stay hb6)
     refine tkS [15,16,17,18,19] ?_
     iterate 5
      refine tkC ?_ rfl (fun w' hS=>?_) hS ?_
      rotate_left
      ·
       skip
       go_simp
       try with_reducible rfl
     refine wpAnyH_done (by kernel_rfl) ?_ _
     clear hS cF hb6 hdr hdr0 hJd x0' x1' y0' y1' hbj
     generalize shared A.vars B.vars r s=sh at *
     generalize compat A.vars B.vars r s=cm at *
     cases g with
     |true=>
      have h2:g2=true:=by rw[hst.out];rfl
      replace h2:=Hd h2
      clear hst
      go_wp2
      go_roundw
      case rel=>exact⟨j+1,hj1.out,by go_num,by rw[hA2.out,h2.out],hJ6⟩
      case measure=>have:=hj1.out;simp[intOf];omega
     | false =>
      cases cm with
      |true=>
       have h2:g2=sh:=by rw[hst.out];simp
       replace h2:=Hd h2
       clear hst
       go_wp2
       go_roundw
       case rel=>exact⟨j+1,hj1.out,by go_num,by rw[hA2.out,h2.out];try simp,hJ6⟩
       case measure=>have:=hj1.out;simp[intOf];omega
      |false=>
       have h2:g2=false:=by rw[hst.out];rfl
       replace h2:=Hd h2
       clear hst
       go_wp2
       go_roundw
       case rel=>exact⟨j+1,hj1.out,by go_num,by rw[hA2.out,h2.out],hJ6⟩
       case measure=>have:=hj1.out;simp[intOf];omega
    ·have hkj:¬(j:Int)<(B.rows.length:Int):=by omega
     obtain rfl:j=B.rows.length:=by omega
     rw[anyK_end]at hg
     rw[anyK_end,hg]
     clear hbj x0' x1' y0' y1'
     cases g with
     |true=>
      have h2:=hno.out (by rw[hg];decide)
      have hbj:=hJ.out.bl
      have y1':=sB hbj hy1.out
      clear hbj
      rw[←h2]at hJ
      replace hg:=Hd hg
      clear h2 hyes hno
      go_wp2
      go_roundw
      case rel=>exact⟨i+1,_,hi1.out,by go_num,by rw[hL2.out];exact hJ⟩
      case measure=>have:=hi1.out;simp[intOf];omega
     | false =>
      have h2:=Hd (hyes.out hg)
      have hbj:=hJ.out.bl
      have y1':=sB hbj hy1.out
      clear hbj
      replace hg:=Hd hg
      clear hyes hno
      go_upto_region 12 with fail
      have hal:Below w5.heap.size w5 w5.drew:=below_drewN (Below.refl _ _) 1
      have hJV:=hJ.out.stay hal
      have hS0:Blk w5.drew wb.heap.size #[.slice av A.vars.length cv,rv] 25∧Below wb.heap.size wb w5.drew:=⟨hJV.tb,hJV.bl⟩
      refine wp_region_late [10] (S:=fun V=>Blk V wb.heap.size #[.slice av A.vars.length cv,rv] 25∧Below wb.heap.size wb V) (by kernel_rfl) hS0 (fun hS=>?_)
      generalize w5.drew=V0 at *
      clear hS0 hal hJ y1'
      refine tlS [0,1,2,3,4,5,6] ?_
      iterate 7
       refine tlC ?_ rfl (fun w' hS=>?_) hS ?_
       rotate_left
       ·
        have z0:=hS.1.cell 0 rfl;have z1:=hS.1.cell 1 rfl;have p0:=sB hS.2 hx0.out;have p1:=sB hS.2 hx1.out;have p4:=sB hS.2 hc1.out
        go_simp
        try with_reducible rfl
      refine wpAnyL_ready (i:=7) (by kernel_rfl) rfl (fun K hK=>?_)
      clear hS
      go_simp
      go_wp2_with fail
      have hal8:=((Below.refl V0.heap.size V0).alloc (Nat.le_refl _) (.cells #[.slice a1 r.length c1] 37))
      have hJ8:=hJV.stay hal8
      have hs8:=World.size_alloc V0 (.cells #[.slice a1 r.length c1] 37)
      have hn8:(V0.alloc (.cells #[.slice a1 r.length c1] 37)).cell? ⟨V0.heap.size,0,none⟩=some (.slice a1 r.length c1):=(Blk.new V0 #[.slice a1 r.length c1] 37).cell 0 rfl
      refine hKo hK ⟨hJ8.tb,hJ8.bl⟩ (fun hS=>?_)
      clear hK K hJV
      refine wpAnyL_ready (i:=8) (by kernel_rfl) rfl (fun K hK=>?_)
      clear hS
      refine wp_pushS (.tmp 56) (.tmp 62) rfl w0 (fun b=>b<w.heap.size∨b=w.heap.size+1+1∨b=wb.heap.size) N _ _ rfl hJ8.rj V0.heap.size r (.slice a1 r.length c1) rfl hn8 rfl (fun _=>False) (fun b hb=>hb.elim) (RobR.old hla1.out) ?d3 hlen.out ?d4
      case d3=>exact fun b hX=>by have h9:=hJ8.tb.lt;have:=hq2lt.out;omega
      intro v' w9 hR9 hg9 hat9
      obtain⟨ao9,cap9,hv9⟩:=hR9.form
      rw[List.length_append,List.length_singleton]at hv9
      subst hv9
      obtain⟨htb9,hbl9,hJ9⟩:=hJ8.next hw0s hat9 hR9 hg9
      refine hKo hK ⟨htb9,hbl9⟩ (fun hS=>?_)
      clear hK K hJ8 hn8 hR9 hg9 hal8
      refine tlH 9 ?_ rfl (fun w' hS=>?_) hS ?_
      rotate_left
      ·
       skip
       go_simp
       try with_reducible rfl
      refine wpAnyL_late (i:=10) (by kernel_rfl) rfl (by kernel_rfl) (fun K hK=>?_)
      clear hS
      have f1:=htb9.free 1
      have z0:=htb9.cell 0 rfl
      have z1:=htb9.cell 1 rfl
      replace hJ9:=Hd hJ9
      go_simp
      go_wp2_with fail
      refine hK.out _ _ ?_
      clear hK K f1 htb9 z0 z1
      try simp only[List.getElem_toArray,List.getElem_cons_succ,List.getElem_cons_zero,Act.put,List.setIfInBounds_toArray,List.set_cons_zero,List.set_cons_succ]
      refine wpAnyL_done (by kernel_rfl) ?_ _
      rw[←h2.out]at hJ9
      go_wp2
      go_roundw
      case rel=>exact⟨i+1,_,hi1.out,by go_num,by rw[hL2.out];exact hJ9⟩
      case measure=>have:=hi1.out;simp[intOf];omega
  ·have hki:¬(i:Int)<(A.rows.length:Int):=by omega
   obtain rfl:i=A.rows.length:=by omega
   have hd:=Hd (hJ.out.done h0h.out hBw.out (.inr hV0h.out) hV0h.out.size hq2b.out (by omega))
   have z0:=hJ.out.tb.cell 0 rfl
   have z1:=hJ.out.tb.cell 1 rfl
   have hrb5:Blk w4 (w.heap.size+1+1) #[.slice none 0 0,.slice none 0 0] 25:=(hbj.block _ hq2lt.out).trans hq2b.out
   have f1:=Blk.free hrb5
   have g0:=hrb5.cell 0 rfl
   have g1:=hrb5.cell 1 rfl
   obtain⟨ao9,cap9,hrv⟩:=hJ.out.rj.form
   subst hrv
   clear hrb5 hbj y1'
   go_wp2
   refine bodyPost_ret (v:=.agg #[.slice av A.vars.length cv,.slice ao9 (someK A B false true A.rows.length).length cap9]) (results_cell_row rfl _ _ (w.heap.size+1+1) 25 _ (0,0) _ rfl hd.out.1.eq Tryz.underlying25 rfl infoTab) rfl ⟨_,rfl,by rw[hz.out];exact hd.out.2⟩
theorem copyRows_any(N:Nat)(hN:N≤1048576)(w:World)(v:Value)(rs:List (List V))(hR:RowsA w N v rs)(hl:rs.length≤1048575):
 Calls Tryz.prog 47 #[v] w fun e w'=>∃u,e=.returned u∧Below w.heap.size w w'∧MR w' N (Fr w.heap.size w') u rs:=by
 obtain⟨ao,cap,rfl,-,hrc⟩:=hR.form
 replace hrc:=Hd hrc
 clear hR
 go_enter Tryz.func47,Tryz.ntmps47
 go_wp2
 go_loopw [3,4] (fun v3 v wr=>∃k:Nat,k≤rs.length∧v=.int .i64 (k:Int)∧Hid (MR wr N (Fr w.heap.size wr) v3 (rs.take k))∧Hid (Below w.heap.size w wr)) (fun _ v _=>rs.length-(intOf v).toNat)
 case atStart=>exact⟨0,by omega,rfl,Hd (MR.nil _ _ _),Hd (Below.refl _ _)⟩
 case round=>
  obtain⟨k,hk,rfl,hM,hb⟩:=hrel
  obtain⟨w0,rfl⟩:∃w0:World,w0=wr:=⟨_,rfl⟩
  by_cases hlt:k<rs.length
  ·have hki:(k:Int)<(rs.length:Int):=by omega
   have hk1:=Hd (show k+1≤rs.length from hlt)
   obtain⟨b,off,a,c,rfl,-,hcell,hla⟩:=hrc.out k hlt
   replace hcell:=sB hb.out hcell
   have htk:=List.take_succ_eq_append_getElem hlt
   have hcall:=copyRow_all N hN (SizeOf.sizeOf (rs[k]'hlt)+1) w0 _ (rs[k]'hlt) (Nat.lt_succ_self _) (hla.stay hb.out)
   have hlen:(rs.take k).length+1≤1048576:=by rw[List.length_take];omega
   generalize (rs[k]'hlt)=r at *
   replace hcall:=Hd hcall
   replace htk:=Hd htk
   replace hlen:=Hd hlen
   clear hla
   go_wp2_with fail
   refine(hcall.out).mono ?_
   rintro e w2 ⟨ao2,cap2,rfl,hb2,hl2⟩
   have hal:Below w2.heap.size w2 (w2.alloc (.cells #[.slice ao2 r.length cap2] 37)):=(Below.refl _ _).alloc (Nat.le_refl _) _
   have hM2:=Hd ((hM.out.stay (w':=w2) fun b hS hlt=>hb2.block b hlt).stay (w':=w2.alloc (.cells #[.slice ao2 r.length cap2] 37)) fun b hS hlt=>Below.heap_alloc w2 _ b hlt)
   have hl3:=Hd (hl2.stay (w':=w2.alloc (.cells #[.slice ao2 r.length cap2] 37)) fun b hS hlt=>Below.heap_alloc w2 _ b hlt)
   have hnw:=Hd ((Blk.new w2 #[.slice ao2 r.length cap2] 37).cell 0 rfl)
   have hsz2:=hb2.size
   have hown:=hb.out.size
   have hs3:=World.size_alloc w2 (.cells #[.slice ao2 r.length cap2] 37)
   have hb3:=Hd ((hb.out.trans (hb2.mono hown)).trans (hal.mono (by omega)))
   replace hs3:=Hd hs3
   clear hl2 hcall hal hM hb2 hcell
   go_wp2_with (at_builtin;refine wpList_pushR rfl _ _ rfl N (Fr w.heap.size w0) (Fr w0.heap.size w2) _ (rs.take k) rfl hM2.out ?c2 w2.heap.size r (.slice ao2 r.length cap2) rfl hnw.out hl3.out ?c4 hlen.out ?c8)
   case c2=>intro b hb;have:=hb.2;rw[hs3.out];omega
   case c4=>intro b hb;exact⟨by rw[hs3.out];have:=hb.2;omega,fun h=>by have:=h.2;have:=hb.1;omega⟩
   case c8=>
    intro v' w' hM' hg hvS
    have hsz':=hg.size
    rw[hs3.out]at hsz'
    have hM3:=Hd (hM'.mono (S':=Fr w.heap.size w') (by
     rintro b (hb|hb|hb)
     ·exact⟨hb.1,by have:=hb.2;omega⟩
     ·exact⟨by have:=hb.1;omega,by have:=hb.2;omega⟩
     ·exact⟨by have h1:=hb.1;omega,hb.2⟩))
    have hb4:=Hd (Below.grown hb3.out hg (by rw[hs3.out];omega) (fun g hgk=>(hvS g hgk).1))
    clear hM' hg hvS hM2 hl3 hnw hb3 hb
    go_wp2
    go_roundw
    case rel=>exact⟨k+1,hk1.out,by go_num,by rw[htk.out];exact hM3,hb4⟩
    case measure=>have:=hk1.out;simp[intOf];omega
  ·have hki:¬(k:Int)<(rs.length:Int):=by omega
   obtain rfl:k=rs.length:=by omega
   have hM3:=hM.out
   rw[List.take_length]at hM3
   obtain⟨ao3,cap3,rfl⟩:=hM3.form
   replace hM3:=Hd hM3
   clear hM
   go_wp2
   go_ret
   exact⟨_,rfl,hb.out,hM3.out⟩
theorem copyTab_any(N:Nat)(hN:N≤1048576)(w:World)(v:Value)(t:Tab)(hT:TabA w N v t)(h1:t.vars.length≤1048576)(h2:t.rows.length≤1048575):
 Calls Tryz.prog 9 #[v] w fun e w'=>∃u,e=.returned u∧TabO w w' N u t:=by
 obtain⟨vv,rv,rfl,hV,hR⟩:=hT.ex
 obtain⟨av,cv,rfl,-⟩:=hV.form
 obtain⟨ar,cr,rfl,-,-⟩:=hR.form
 have hal:Below w.heap.size w ((w.alloc (.cells #[.slice av t.vars.length cv,.slice ar t.rows.length cr] 25)).alloc (.cells #[.slice none 0 0,.slice none 0 0] 25)):=
  ((Below.refl _ _).alloc (Nat.le_refl _) _).alloc (by rw[World.size_alloc];omega) _
 have hq0:=(Blk.new w #[.slice av t.vars.length cv,.slice ar t.rows.length cr] 25).alloc (.cells #[.slice none 0 0,.slice none 0 0] 25)
 have hq1:=Blk.new (w.alloc (.cells #[.slice av t.vars.length cv,.slice ar t.rows.length cr] 25)) #[.slice none 0 0,.slice none 0 0] 25
 rw[World.size_alloc]at hq1
 obtain⟨w1,hw1⟩:∃w1,((w.alloc (.cells #[.slice av t.vars.length cv,.slice ar t.rows.length cr] 25)).alloc (.cells #[.slice none 0 0,.slice none 0 0] 25)).drew=w1:=⟨_,rfl⟩
 have hdr:=hal.drew
 rw[hw1]at hdr
 have hq0d:Blk w1 w.heap.size #[.slice av t.vars.length cv,.slice ar t.rows.length cr] 25:=by rw[←hw1];exact hq0.drewN 1
 have hq1d:Blk w1 (w.heap.size+1) #[.slice none 0 0,.slice none 0 0] 25:=by rw[←hw1];exact hq1.drewN 1
 have hs1:w1.heap.size=w.heap.size+2:=by rw[←hw1];show((w.alloc _).alloc _).heap.size=_;simp
 have c1:=Hd (hyp.copyT_any w1 _ t.vars (TextsA.below hV hdr) h1)
 have c2:=Hd (fun V (h:Below w1.heap.size w1 V)=>copyRows_any N hN V _ t.rows ((hR.stay hdr).stay h) h2)
 have hsz:=Hd hV.size
 have x0:=hq0d.cell 0 rfl
 have x1:=hq0d.cell 1 rfl
 replace hdr:=Hd hdr
 replace hs1:=Hd hs1
 clear hV hR hT hal hq0 hq1 hq0d
 go_enter Tryz.func9,Tryz.ntmps9
 go_upto_region 1 with fail
 refine wp_region_held_drew (S:=fun V=>V.cell? ⟨w.heap.size,0,none⟩=some (.slice av t.vars.length cv)∧V.cell? ⟨w.heap.size,1,none⟩=some (.slice ar t.rows.length cr)) (by kernel_rfl) (by rw[hw1];exact⟨x0,x1⟩) (fun hS=>?_)
 rw[hw1]
 rw[hw1]at hS
 replace hw1:=Hd hw1
 refine tkS [0,1,3,4] ?_
 iterate 4
  refine tkC ?_ rfl (fun w' hS=>?_) hS ?_
  rotate_left
  ·
   have y0:=hS.1;have y1:=hS.2
   go_simp
   try with_reducible rfl
 refine rdH 2 rfl (fun K hK=>?_)
 clear hS
 go_simp
 refine(c1.out).mono ?_
 rintro e w2 ⟨u1,rfl,hO1⟩
 go_wp2_with fail
 refine hKo hK (⟨sB hO1.below x0,sB hO1.below x1⟩) (fun hS=>?_)
 clear hK K
 have hb12:=hO1.below
 have own1:w2.ownsRow w1.heap.size 9 1 u1 t.vars.length (textsV t.vars):=by have:=hO1.own;rw[textsV_length]at this;exact this
 obtain⟨a1,k1,hu1⟩:=own_form4x own1
 subst hu1
 have c2':=Hd (c2.out w2 hb12)
 have hq2:Blk w2 (w.heap.size+1) _ _:=(hb12.block _ hq1d.lt).trans hq1d
 clear c1 c2 hO1
 refine rdH 5 rfl (fun K hK=>?_)
 clear hS
 go_simp
 refine(c2'.out).mono ?_
 rintro e w3 ⟨u2,rfl,hb3,hM3⟩
 go_wp2_with fail
 refine hKo hK (⟨sB hb3 (sB hb12 x0),sB hb3 (sB hb12 x1)⟩) (fun hS=>?_)
 clear hK K
 obtain⟨a2,k2,hu2⟩:=hM3.form
 subst hu2
 have hq3:Blk w3 (w.heap.size+1) #[.slice none 0 0,.slice none 0 0] 25:=(hb3.block _ hq2.lt).trans hq2
 have own3:=own_keep own1 hb3
 have hb13:=hb12.trans (hb3.mono hb12.size)
 refine tkH 6 ?_ rfl (fun w' hS=>?_) hS ?_
 rotate_left
 ·
  skip
  go_simp
  try with_reducible rfl
 refine rdH 7 rfl (fun K hK=>?_)
 clear hS
 have f0:=hq3.free
 have z0:=hq3.cell 0 rfl
 have z1:=hq3.cell 1 rfl
 have hr2:=hq3.set 0 (.slice a1 t.vars.length k1)
 have hr3:=hr2.set 1 (.slice a2 t.rows.length k2)
 have hs12:=hb12.size
 have hT3:TabO w ((w3.setCell ⟨w.heap.size+1,0,none⟩ (.slice a1 t.vars.length k1)).setCell ⟨w.heap.size+1,1,none⟩ (.slice a2 t.rows.length k2)) N (.agg #[.slice a1 t.vars.length k1,.slice a2 t.rows.length k2]) t:=by
  refine⟨_,_,rfl,?_,?_,hsz.out,?_⟩
  ·exact((hdr.out.trans (hb13.mono hdr.out.size)).setCell (p:=⟨w.heap.size+1,0,none⟩) (by simp) _).setCell (p:=⟨w.heap.size+1,1,none⟩) (by simp) _
  ·exact own_set (own_set (own_low4 own3 (by have:=hs1.out;omega)) hq3 (by decide) 0 _) hr2 (by decide) 1 _
  ·have hsz2:((w3.setCell ⟨w.heap.size+1,0,none⟩ (.slice a1 t.vars.length k1)).setCell ⟨w.heap.size+1,1,none⟩ (.slice a2 t.rows.length k2)).heap.size=w3.heap.size:=by simp[World.setCell]
   have h1:=hs1.out
   refine(hM3.stay fun b hS _=>?_).mono fun b hS=>?_
   ·have:=hS.1
    rw[Below.heap_setCell _ _ _ b (by simp;omega),Below.heap_setCell _ _ _ b (by simp;omega)]
   ·exact⟨by have:=hS.1;omega,by rw[hsz2];exact hS.2⟩
 have hx03:=Hd (sB hb3 (sB hb12 x0))
 have hx13:=Hd (sB hb3 (sB hb12 x1))
 replace hT3:=Hd hT3
 replace hr3:=Hd hr3
 clear hM3 own3 hb13 own1 hb12 hb3 hr2
 go_simp
 go_wp2_with fail
 refine hK.out _ _ ⟨?_,?_⟩ (fun hS=>?_)
 ·exact(cell_heapx ((Below.heap_setCell _ _ _ _ (by simp)).trans (Below.heap_setCell _ _ _ _ (by simp)))).trans hx03.out
 ·exact(cell_heapx ((Below.heap_setCell _ _ _ _ (by simp)).trans (Below.heap_setCell _ _ _ _ (by simp)))).trans hx13.out
 clear hK K
 try simp only[List.getElem_toArray,List.getElem_cons_succ,List.getElem_cons_zero,Act.put,List.setIfInBounds_toArray,List.set_cons_zero,List.set_cons_succ]
 refine wpAnyH_done (by kernel_rfl) ?_ _
 clear hS f0 z0 z1 hx03 hx13
 go_wp2
 refine bodyPost_ret (v:=.agg #[.slice a1 t.vars.length k1,.slice a2 t.rows.length k2]) (results_cell_row rfl _ _ (w.heap.size+1) 25 _ (0,0) _ rfl hr3.out.eq Tryz.underlying25 rfl infoTab) rfl ⟨_,rfl,hT3.out⟩
end Go.Proofs.YtidplkfhodpdhaaGreatDoor.tab
