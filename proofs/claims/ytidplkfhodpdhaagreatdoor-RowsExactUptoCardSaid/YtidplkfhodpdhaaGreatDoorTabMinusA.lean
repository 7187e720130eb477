/- Texts RtCanon, TabMinusA, one behind the other. -/
import Derived.Test.YtidplkfhodpdhaaGreatDoorRsA
import Derived.Test.YtidplkfhodpdhaaGreatDoorStabC
set_option linter.unusedSimpArgs false
set_option linter.unusedVariables false
set_option maxRecDepth 100000
set_option maxHeartbeats 4000000
namespace Go.Proofs.YtidplkfhodpdhaaGreatDoor.tab
open Go.ChangeShapes Go.WideShapes Go.ChangeAt Go.RowKit kit dec val
open hyp (RowA TextsA CellsStay stay_of_below textsV textsV_length own_row OW)
theorem rCanon_any(N:Nat)(hN:N≤1048576)(lang:Int)(w:World)(va:Value)(A:Tab)(hA:TabA w N va A)(a1:A.vars.length≤1048576)(a2:A.rows.length≤1000000):
 Calls Tryz.prog 29 #[.int .i64 lang,va] w fun e w'=>∃v,e=.returned v∧TabO w w' N v (canonT (decide (lang=1)) A):=by
 obtain⟨vv,rv,rfl,hV,hR⟩:=hA.ex
 obtain⟨av,cv,rfl,hvc⟩:=hV.form
 obtain⟨ar,cr,rfl,-,hrc⟩:=hR.form
 have hal:Below w.heap.size w ((w.alloc (.cells #[.slice av A.vars.length cv,.slice ar A.rows.length cr] 25)).alloc (.cells #[.slice none 0 0,.slice none 0 0] 25)):=((Below.refl _ _).alloc (Nat.le_refl _) _).alloc (by rw[World.size_alloc];omega) _
 have hq0:=(Blk.new w #[.slice av A.vars.length cv,.slice ar A.rows.length cr] 25).alloc (.cells #[.slice none 0 0,.slice none 0 0] 25)
 have hq1:=Blk.new (w.alloc (.cells #[.slice av A.vars.length cv,.slice ar A.rows.length cr] 25)) #[.slice none 0 0,.slice none 0 0] 25
 rw[World.size_alloc]at hq1
 obtain⟨w3,hw3⟩:∃w1,(w.alloc (.cells #[.slice av A.vars.length cv,.slice ar A.rows.length cr] 25)).alloc (.cells #[.slice none 0 0,.slice none 0 0] 25)=w1:=⟨_,rfl⟩
 have hs1:w3.heap.size=w.heap.size+2:=by rw[←hw3];simp
 rw[hw3]at hal hq0 hq1
 have hV1:=Hd (TextsA.below hV hal)
 have hR1:=Hd (hR.stay hal)
 have x0:=hq0.cell 0 rfl
 have x1:=hq0.cell 1 rfl
 have cS:=Hd (fun V (h:Below w3.heap.size w3 V)=>rSort_any N hN lang V _ A.rows (hR1.out.stay h) a2)
 have hB3:=Hd hal
 replace hq1:=Hd hq1
 replace hw3:=Hd hw3
 replace hs1:=Hd hs1
 clear hA hV hR hvc hrc hq0 hR1 hal
 go_enter Tryz.func29,Tryz.ntmps29
 go_upto_region 1 with fail
 rw[hw3.out]
 have h0:Below w3.heap.size w3 w3.drew:=below_drewN (Below.refl _ _) 1
 refine wp_region_held_drew (S:=fun V=>V.cell? ⟨w.heap.size,0,none⟩=some (.slice av A.vars.length cv)∧V.cell? ⟨w.heap.size,1,none⟩=some (.slice ar A.rows.length cr)) (by kernel_rfl) ⟨x0,x1⟩ (fun hS=>?_)
 have hx0:=Hd x0
 have hx1:=Hd x1
 clear x0 x1
 generalize w3.drew=V0 at *
 refine tkS [0,1,2,3,4] ?_
 iterate 5
  refine tkC ?_ rfl (fun w' hS=>?_) hS ?_
  rotate_left
  ·
   have y0:=hS.1;have y1:=hS.2
   go_simp
   try with_reducible rfl
 refine rdH 5 rfl (fun K hK=>?_)
 clear hS
 go_simp
 refine(cS.out V0 h0).mono ?_
 rintro e w4 ⟨v,rfl,hb4,hro⟩
 go_wp2_with fail
 refine hKo hK (⟨sB ((h0.trans (hb4.mono h0.size))) hx0.out,sB ((h0.trans (hb4.mono h0.size))) hx1.out⟩) (fun hS=>?_)
 clear hK K
 have h4:=h0.trans (hb4.mono h0.size)
 obtain⟨as4,cs4,hvs⟩:=hro.form
 subst hvs
 have tS:TabA w4 N (.agg #[.slice av A.vars.length cv,.slice as4 (sortR (decide (lang=1)) A.rows).length cs4]) ⟨A.vars,sortR (decide (lang=1)) A.rows⟩:=⟨_,_,rfl,TextsA.below hV1.out h4,hro.read hb4⟩
 have cT:=Hd (copyTab_any N hN w4 _ _ tS a1 (by show(sortR _ A.rows).length≤1048575;rw[sortR_len];omega))
 clear hb4 h0 cS hro tS
 refine tkH 6 ?_ rfl (fun w' hS=>?_) hS ?_
 rotate_left
 ·
  skip
  go_simp
  try with_reducible rfl
 refine rdH 7 rfl (fun K hK=>?_)
 clear hS
 go_simp
 refine cT.out.mono ?_
 rintro e w5 ⟨v,rfl,hO⟩
 have hb5:=hO.below
 have h5:=h4.trans (hb5.mono h4.size)
 have hO5:=hO
 obtain⟨vv5,rv5,rfl,-,hown,-,hMR⟩:=hO5
 obtain⟨an5,cn5,hvn⟩:=own_form4x hown
 obtain⟨ar5,cr5,hvr⟩:=hMR.form
 subst hvn
 subst hvr
 go_wp2_with fail
 refine hKo hK ⟨sB h5 hx0.out,sB h5 hx1.out⟩ (fun hS=>?_)
 clear hK K
 have hrb:Blk w5 (w.heap.size+1) _ _:=(h5.block _ hq1.out.lt).trans hq1.out
 have hd:=Hd (tabO_stored (w:=w) (rb:=w.heap.size+1) (hB3.out.trans (h4.mono hB3.out.size)) hO hrb (by have:=hs1.out;have:=h4.size;omega) (by have:=hs1.out;have:=h4.size;omega) (by omega))
 have f1:=Blk.free hrb
 have g0:=hrb.cell 0 rfl
 have g1:=hrb.cell 1 rfl
 have s0:((w5.setCell ⟨w.heap.size+1,0,none⟩ (.slice an5 A.vars.length cn5)).setCell ⟨w.heap.size+1,1,none⟩ (.slice ar5 (sortR (decide (lang=1)) A.rows).length cr5)).cell? ⟨w.heap.size,0,none⟩=some (.slice av A.vars.length cv)∧((w5.setCell ⟨w.heap.size+1,0,none⟩ (.slice an5 A.vars.length cn5)).setCell ⟨w.heap.size+1,1,none⟩ (.slice ar5 (sortR (decide (lang=1)) A.rows).length cr5)).cell? ⟨w.heap.size,1,none⟩=some (.slice ar A.rows.length cr):=by
  have hh:((w5.setCell ⟨w.heap.size+1,0,none⟩ (.slice an5 A.vars.length cn5)).setCell ⟨w.heap.size+1,1,none⟩ (.slice ar5 (sortR (decide (lang=1)) A.rows).length cr5)).heap[w.heap.size]? = w5.heap[w.heap.size]?:=by
   rw[Below.heap_setCell _ _ _ _ (by simp),Below.heap_setCell _ _ _ _ (by simp)]
  exact⟨(cell_heapx hh).trans (sB h5 hx0.out),(cell_heapx hh).trans (sB h5 hx1.out)⟩
 refine rdH 8 rfl (fun K hK=>?_)
 clear hS
 go_simp
 go_wp2_with fail
 refine hKo hK s0 (fun hS=>?_)
 clear hK K
 refine wpAnyH_done (by kernel_rfl) ?_ _
 clear hS s0 g0 g1 f1
 go_wp2
 refine bodyPost_ret (v:=.agg #[.slice an5 A.vars.length cn5,.slice ar5 (sortR (decide (lang=1)) A.rows).length cr5]) (results_cell_row rfl _ _ (w.heap.size+1) 25 _ (0,0) _ rfl hd.out.1.eq Tryz.underlying25 rfl infoTab) rfl ⟨_,rfl,hd.out.2⟩
end Go.Proofs.YtidplkfhodpdhaaGreatDoor.tab
set_option linter.unusedSimpArgs false
set_option linter.unusedVariables false
set_option maxRecDepth 100000
set_option maxHeartbeats 4000000
namespace Go.Proofs.YtidplkfhodpdhaaGreatDoor.tab
open Go.ChangeShapes Go.WideShapes Go.ChangeAt Go.RowKit kit dec val
open hyp (RowA TextsA CellsStay stay_of_below textsV textsV_length own_row OW)
def takes(A B:List ByteArray)(r s:List V):Bool:=compat A B r s&&shared A B r s
structure MnW(w:World)(N n:Nat)(A B:List ByteArray)(r:List V)(p5 p8:Nat)(an:Option Addr)(cn:Nat)(vp u:Value):Prop where
 c0:w.cell? ⟨p5,0,none⟩=some (.slice an n cn)
 c1:w.cell? ⟨p5,1,none⟩=some vp
 c2:w.cell? ⟨p8,0,none⟩=some u
 pl:RowA w w.heap.size vp (numsN (atN A B))
 row:LA w N u r
theorem MnW.stay{w w':World}{N n:Nat}{A B:List ByteArray}{r:List V}{p5 p8:Nat}{an:Option Addr}{cn:Nat}{vp u:Value}(h:MnW w N n A B r p5 p8 an cn vp u)(hb:Below w.heap.size w w'):MnW w' N n A B r p5 p8 an cn vp u:=
 ⟨sB hb h.c0,sB hb h.c1,sB hb h.c2,(h.pl.stay (stay_of_below hb)).mono hb.size,h.row.stay hb⟩
theorem taker_any(N:Nat)(hN:N≤1048576)(w:World)(A B:List ByteArray)(r s:List V)(n p5 p8:Nat)(an:Option Addr)(cn:Nat)(vp u u2:Value)(hA:A.Nodup)(hB:B.Nodup)(hr:rowB A.length r=true)(hs:s.length=B.length)(hsm:∀v∈s,mayV v=true)
 (hn:(B.foldl addN A).length=n)(hnN:n≤N)(h:MnW w N n A B r p5 p8 an cn vp u)(h2:LA w N u2 s):
 Calls Tryz.prog 88 #[u2,.pointer (some ⟨p5,0,none⟩),.pointer (some ⟨p8,0,none⟩)] w fun e w'=>e=.returned (.bool (takes A B r s))∧Below w.heap.size w w':=by
 have hj:=joined_any N hN w A B r s an n cn vp u u2 hA hB hr hs hsm hn hnN h.pl h.row h2
 have c0:=h.c0
 have c1:=h.c1
 have c2:=h.c2
 obtain⟨av,cv,rfl,-⟩:=h.pl.form
 obtain⟨ar,cr,rfl⟩:=h.row.form6
 obtain⟨as2,cs2,rfl⟩:=h2.form6
 obtain⟨tk,htk⟩:∃tk,takes A B r s=tk:=⟨_,rfl⟩
 rw[htk]
 have hz:tk=(compat A B r s&&shared A B r s):=by rw[←htk];rfl
 replace hz:=Hd hz
 clear htk
 rw[numsN_length]at hj c1
 replace hj:=Hd hj
 clear h h2 hsm hs hr hn hnN hA hB
 go_enter Tryz.func88,Tryz.ntmps88
 go_wp2_with fail
 refine hj.out.mono ?_
 rintro e w2 ⟨hb,hY,hN6⟩
 clear hj
 generalize shared A B r s=sh at *
 generalize compat A B r s=b at *
 cases b with
 |true=>
  obtain⟨a9,c9,rfl,-⟩:=hY rfl
  clear hY hN6
  replace hb:=Hd hb
  go_wp2
  go_ret
  exact⟨ret_bool (by rw[hz.out];simp),hb.out⟩
 |false=>
  obtain rfl:=hN6 rfl
  clear hY hN6
  replace hb:=Hd hb
  go_wp2
  go_ret
  exact⟨ret_bool (by rw[hz.out];simp),hb.out⟩
theorem indexT_any(N:Nat)(hN:N≤1048576)(w:World)(A B:List ByteArray)(r:List V)(R:List (List V))(n p5 p8:Nat)(an:Option Addr)(cn:Nat)(vp u u2:Value)(hA:A.Nodup)(hB:B.Nodup)(hr:rowB A.length r=true)(hR:∀s∈R,rowB B.length s=true)
 (hn:(B.foldl addN A).length=n)(hnN:n≤N)(h:MnW w N n A B r p5 p8 an cn vp u)(h2:RowsA w N u2 R)(hRl:R.length≤1048576):
 Calls Tryz.prog 117 #[u2,.func (.func 88) #[] #[.pointer (some ⟨p5,0,none⟩),.pointer (some ⟨p8,0,none⟩)]] w fun e w'=>∃i:Int,e=.returned (.int .i64 i)∧decide (0≤i)=R.any (takes A B r)∧Below w.heap.size w w':=by
 obtain⟨ar,cr,rfl,-,hrc⟩:=h2.form
 replace hrc:=Hd hrc
 replace h:=Hd h
 replace hR:=Hd hR
 clear h2
 go_enter Tryz.func117,Tryz.ntmps117
 go_wp2
 go_loopw [8] (fun v wr=>∃k:Nat,k≤R.length∧v=.int .i64 (k:Int)∧Hid (Below w.heap.size w wr)∧Hid (∀j (hj:j<R.length),j<k→takes A B r R[j]=false)) (fun v _=>R.length-(intOf v).toNat)
 case atStart=>exact⟨0,by omega,rfl,Hd (Below.refl _ _),Hd fun j _ h=>by omega⟩
 case round =>
  obtain⟨k,hk,rfl,hb,hall⟩:=hrel
  by_cases hlt:k<R.length
  ·have hki:(k:Int)<(R.length:Int):=by omega
   have hk1:=Hd (show k+1≤R.length from hlt)
   obtain⟨b1,off,a1,c1,rfl,hb1,hcell,hla⟩:=hrc.out k hlt
   replace hcell:=sB hb.out hcell
   have hrs:=hR.out _ (List.getElem_mem hlt)
   unfold rowB at hrs
   rw[Bool.and_eq_true,decide_eq_true_eq,List.all_eq_true]at hrs
   have hcl:=taker_any N hN wr A B r R[k] n p5 p8 an cn vp u _ hA hB hr hrs.1 hrs.2 hn hnN (h.out.stay hb.out) (hla.stay hb.out)
   have hR2:∀c,takes A B r R[k]=c→(c=true→R.any (takes A B r)=true)∧(c=false→∀j (hj:j<R.length),j<k+1→takes A B r R[j]=false):=fun c hc=>by
    refine⟨fun e=>?_,fun e j hj hjk=>?_⟩
    ·rw[List.any_eq_true]
     exact⟨R[k],List.getElem_mem hlt,by rw[hc,e]⟩
    ·rcases Nat.lt_or_ge j k with h1|h1
     ·exact hall.out j hj h1
     ·obtain rfl:j=k:=by omega
      exact hc.trans e
   obtain⟨c,hcc⟩:∃c,takes A B r R[k]=c:=⟨_,rfl⟩
   rw[hcc]at hcl
   have hR3:=hR2 c hcc
   replace hcl:=Hd hcl
   clear hR2 hcc hall hrs hla hb1
   generalize R[k]=s at *
   go_wp2_with fail
   refine hcl.out.mono ?_
   rintro e w2 ⟨rfl,hb2⟩
   have hb3:=Hd (hb.out.trans (hb2.mono hb.out.size))
   clear hb2 hcl hcell
   cases c
   ·have hf:=Hd (hR3.2 rfl)
    clear hR3
    go_wp2
    go_roundw
    case rel=>exact⟨k+1,hk1.out,by go_num,hb3,hf⟩
    case measure=>have:=hk1.out;simp[intOf];omega
   ·have hf:=Hd (hR3.1 rfl)
    clear hR3
    go_wp2
    go_ret
    exact⟨(k:Int),rfl,by rw[hf.out];simp,hb3.out⟩
  ·have hki:¬(k:Int)<(R.length:Int):=by omega
   have hf:R.any (takes A B r)=false:=by
    rw[List.any_eq_false]
    intro v hv
    obtain⟨j,hj,rfl⟩:=List.getElem_of_mem hv
    rw[hall.out j hj (by omega)]
    decide
   replace hf:=Hd hf
   clear hall
   go_wp2
   go_ret
   exact⟨-1,rfl,by rw[hf.out];decide,hb.out⟩
theorem containsT_any(N:Nat)(hN:N≤1048576)(w:World)(A B:List ByteArray)(r:List V)(R:List (List V))(n p5 p8:Nat)(an:Option Addr)(cn:Nat)(vp u u2:Value)(hA:A.Nodup)(hB:B.Nodup)(hr:rowB A.length r=true)(hR:∀s∈R,rowB B.length s=true)
 (hn:(B.foldl addN A).length=n)(hnN:n≤N)(h:MnW w N n A B r p5 p8 an cn vp u)(h2:RowsA w N u2 R)(hRl:R.length≤1048576):
 Calls Tryz.prog 87 #[u2,.func (.func 88) #[] #[.pointer (some ⟨p5,0,none⟩),.pointer (some ⟨p8,0,none⟩)]] w fun e w'=>e=.returned (.bool (R.any (takes A B r)))∧Below w.heap.size w w':=by
 have hi:=Hd (indexT_any N hN w A B r R n p5 p8 an cn vp u u2 hA hB hr hR hn hnN h h2 hRl)
 obtain⟨ar,cr,rfl,-,-⟩:=h2.form
 clear h h2 hR
 go_enter Tryz.func87,Tryz.ntmps87
 go_wp2_with fail
 refine hi.out.mono ?_
 rintro e w2 ⟨i,rfl,hi2,hb2⟩
 replace hb2:=Hd hb2
 go_wp2
 go_ret
 exact⟨rfl,hb2.out⟩
def minusZ(A B:Tab):Tab:=if mayT A=true∧mayT B=true then minusT A B else⟨[],[]⟩
def leftK(A B:Tab)(k:Nat):List (List V):=(A.rows.take k).filter fun r=>!B.rows.any (takes A.vars B.vars r)
theorem leftK_end(A B:Tab):leftK A B A.rows.length=(minusT A B).rows:=by unfold leftK minusT;rw[List.take_length];rfl
theorem leftK_step(A B:Tab){k:Nat}(h:k<A.rows.length):leftK A B (k+1)=if B.rows.any (takes A.vars B.vars A.rows[k])=true then leftK A B k else leftK A B k++[A.rows[k]]:=by
 unfold leftK
 rw[List.take_succ_eq_append_getElem h,List.filter_append]
 cases hc:B.rows.any (takes A.vars B.vars A.rows[k]) with
 |true=>rw[if_pos rfl,List.filter_cons_of_neg (by rw[hc];decide)];simp
 |false=>rw[if_neg (by decide),List.filter_cons_of_pos (by rw[hc];decide)];simp
theorem leftK_len(A B:Tab)(k:Nat):(leftK A B k).length≤k:=by
 unfold leftK
 refine Nat.le_trans (List.length_filter_le _ _) ?_
 rw[List.length_take];omega
theorem minus_any(N:Nat)(hN:N≤1048576)(w:World)(hE:Env w)(va vb:Value)(A B:Tab)(hA:TabA w N va A)(hB:TabA w N vb B)(a1:A.vars.length≤100000)(a2:A.rows.length≤1048576)(b1:B.vars.length≤100000)(b2:B.rows.length≤1048576)(hN2:128≤N):
 Calls Tryz.prog 39 #[va,vb] w fun e w'=>∃v,e=.returned v∧TabO w w' N v (minusZ A B):=by
 obtain⟨vv,rv,rfl,hV,hR⟩:=hA.ex
 obtain⟨vv2,rv2,rfl,hV2,hR2⟩:=hB.ex
 obtain⟨av,cv,rfl,-⟩:=hV.form
 obtain⟨av2,cv2,rfl,-⟩:=hV2.form
 obtain⟨ar,cr,rfl,-,hrc⟩:=hR.form
 obtain⟨ar2,cr2,rfl,-,-⟩:=hR2.form
 have hal:Below w.heap.size w (((w.alloc (.cells #[.slice av A.vars.length cv,.slice ar A.rows.length cr] 25)).alloc (.cells #[.slice av2 B.vars.length cv2,.slice ar2 B.rows.length cr2] 25)).alloc (.cells #[.slice none 0 0,.slice none 0 0] 25)):=
  (((Below.refl _ _).alloc (Nat.le_refl _) _).alloc (by rw[World.size_alloc];omega) _).alloc (by rw[World.size_alloc,World.size_alloc];omega) _
 have hq0:=((Blk.new w #[.slice av A.vars.length cv,.slice ar A.rows.length cr] 25).alloc (.cells #[.slice av2 B.vars.length cv2,.slice ar2 B.rows.length cr2] 25)).alloc (.cells #[.slice none 0 0,.slice none 0 0] 25)
 have hq1:=(Blk.new (w.alloc (.cells #[.slice av A.vars.length cv,.slice ar A.rows.length cr] 25)) #[.slice av2 B.vars.length cv2,.slice ar2 B.rows.length cr2] 25).alloc (.cells #[.slice none 0 0,.slice none 0 0] 25)
 have hq2:=Blk.new ((w.alloc (.cells #[.slice av A.vars.length cv,.slice ar A.rows.length cr] 25)).alloc (.cells #[.slice av2 B.vars.length cv2,.slice ar2 B.rows.length cr2] 25)) #[.slice none 0 0,.slice none 0 0] 25
 rw[World.size_alloc]at hq1 hq2
 rw[World.size_alloc]at hq2
 obtain⟨w1,hw1⟩:∃w1,(((w.alloc (.cells #[.slice av A.vars.length cv,.slice ar A.rows.length cr] 25)).alloc (.cells #[.slice av2 B.vars.length cv2,.slice ar2 B.rows.length cr2] 25)).alloc (.cells #[.slice none 0 0,.slice none 0 0] 25))=w1:=⟨_,rfl⟩
 have hs1:w1.heap.size=w.heap.size+3:=by rw[←hw1];simp
 rw[hw1]at hal hq0 hq1 hq2
 have hE1:=hE.below hal
 have hsA:=Hd hV.size
 have cA:=Hd (checkT_any N (by omega) w1 hE1 _ A (hA.stay hal) (by omega) a2)
 have cB:=Hd (fun V (h:Below w1.heap.size w1 V)=>checkT_any N (by omega) V (hE1.below h) _ B ((hB.stay hal).stay h) (by omega) b2)
 have cT:=Hd (fun V (h:Below w1.heap.size w1 V)=>together_any V _ _ A.vars B.vars (TextsA.below (TextsA.below hV hal) h) (TextsA.below (TextsA.below hV2 hal) h) a1 b1)
 have cC:=Hd (fun V (h:Below w1.heap.size w1 V)=>cloneT_any V _ A.vars (by omega) (TextsA.below (TextsA.below hV hal) h))
 have hR1:=Hd (hR2.stay hal)
 have x0:=hq0.cell 0 rfl
 have x1:=hq0.cell 1 rfl
 have y0:=hq1.cell 0 rfl
 have y1:=hq1.cell 1 rfl
 replace hrc:=Hd hrc
 replace hal:=Hd hal
 replace hq2:=Hd hq2
 replace hw1:=Hd hw1
 clear hA hB hV hV2 hR hR2 hE hE1 hq0 hq1
 go_enter Tryz.func39,Tryz.ntmps39
 go_wp2_with fail
 rw[hw1.out]
 refine cA.out.mono ?_
 rintro e w2 ⟨rfl,hb2⟩
 replace x0:=sB hb2 x0
 replace x1:=sB hb2 x1
 replace y0:=sB hb2 y0
 replace y1:=sB hb2 y1
 replace hq2:=Hd (hq2.out.keep (Keep.ofBelow hb2) (by simp))
 have hB2:=Hd (hal.out.trans (hb2.mono hal.out.size))
 have cB2:=Hd (cB.out w2 hb2)
 have hb12:=Hd hb2
 clear cA cB hb2
 cases hmA:mayT A with
 |false=>
  have hz:minusZ A B=⟨[],[]⟩:=by unfold minusZ;rw[hmA];simp
  replace hz:=Hd hz
  clear cB2
  have hfin:=Hd ((hq2.out.set 0 (.slice none 0 0)).set 1 (.slice none 0 0))
  have hbf:=Hd ((hB2.out.setCell (p:=⟨w.heap.size+1+1,0,none⟩) (by simp;omega) (.slice none 0 0)).setCell (p:=⟨w.heap.size+1+1,1,none⟩) (by simp;omega) (.slice none 0 0))
  have f1:=Blk.free hq2.out
  have g0:=hq2.out.cell 0 rfl
  have g1:=hq2.out.cell 1 rfl
  go_wp2
  refine bodyPost_ret (v:=.agg #[.slice none 0 0,.slice none 0 0]) (results_cell_row rfl _ _ (w.heap.size+1+1) 25 _ (0,0) _ rfl hfin.out.eq Tryz.underlying25 rfl infoTab) rfl ⟨_,rfl,?_⟩
  rw[hz.out]
  exact tabO_zero hbf.out
 | true =>
  go_wp2_with fail
  refine cB2.out.mono ?_
  rintro e w3 ⟨rfl,hb3⟩
  replace x0:=sB hb3 x0
  replace x1:=sB hb3 x1
  replace y0:=sB hb3 y0
  replace y1:=sB hb3 y1
  replace hq2:=Hd (hq2.out.keep (Keep.ofBelow hb3) (by simp))
  have hB3:=Hd (hB2.out.trans (hb3.mono hB2.out.size))
  have hb13:=Hd (hb12.out.trans (hb3.mono hb12.out.size))
  clear cB2 hb12 hB2 hb3
  cases hmB:mayT B with
  |false=>
   have hz:minusZ A B=⟨[],[]⟩:=by unfold minusZ;rw[hmB];simp
   replace hz:=Hd hz
   clear cT cC
   have hfin:=Hd ((hq2.out.set 0 (.slice none 0 0)).set 1 (.slice none 0 0))
   have hbf:=Hd ((hB3.out.setCell (p:=⟨w.heap.size+1+1,0,none⟩) (by simp;omega) (.slice none 0 0)).setCell (p:=⟨w.heap.size+1+1,1,none⟩) (by simp;omega) (.slice none 0 0))
   have f1:=Blk.free hq2.out
   have g0:=hq2.out.cell 0 rfl
   have g1:=hq2.out.cell 1 rfl
   go_wp2
   refine bodyPost_ret (v:=.agg #[.slice none 0 0,.slice none 0 0]) (results_cell_row rfl _ _ (w.heap.size+1+1) 25 _ (0,0) _ rfl hfin.out.eq Tryz.underlying25 rfl infoTab) rfl ⟨_,rfl,?_⟩
   rw[hz.out]
   exact tabO_zero hbf.out
  | true =>
   have hz:minusZ A B=⟨A.vars,leftK A B A.rows.length⟩:=by unfold minusZ;rw[hmA,hmB,leftK_end];simp[minusT]
   obtain⟨hnA,hrA⟩:=may_rows hmA
   obtain⟨hnB,hrB⟩:=may_rows hmB
   obtain⟨hl1,-,hdA⟩:=names_parts hnA
   obtain⟨hl2,-,hdB⟩:=names_parts hnB
   have hfl:=foldN_len B.vars A.vars
   have hcT:=Hd (cT.out w3 hb13.out)
   replace hz:=Hd hz
   replace hmA:=Hd hmA
   replace hmB:=Hd hmB
   clear cT hnA hnB
   go_wp2_with fail
   refine hcT.out.mono ?_
   rintro e w4 ⟨v,rfl,vn,vp,rfl,hb4,hnm,hpl⟩
   obtain⟨an,cn,rfl⟩:=own_form4x hnm
   obtain⟨ap,cp,rfl⟩:=own_form4x hpl
   obtain⟨n,hn⟩:∃n,(B.vars.foldl addN A.vars).length=n:=⟨_,rfl⟩
   rw[hn]at hnm hfl ⊢
   have h45:Below w3.heap.size w3 (w4.alloc (.cells #[.slice an n cn,.slice ap (atN A.vars B.vars).length cp] 83)):=hb4.alloc hb4.size _
   have hp5:=Blk.new w4 #[.slice an n cn,.slice ap (atN A.vars B.vars).length cp] 83
   have hpl5:=Hd (own_row (by rw[numsN_length];exact hpl.alloc (.cells #[.slice an n cn,.slice ap (atN A.vars B.vars).length cp] 83)):RowA (w4.alloc (.cells #[.slice an n cn,.slice ap (atN A.vars B.vars).length cp] 83)) (w4.alloc (.cells #[.slice an n cn,.slice ap (atN A.vars B.vars).length cp] 83)).heap.size (.slice ap (atN A.vars B.vars).length cp) (numsN (atN A.vars B.vars)))
   have hcC:=Hd (cC.out _ (hb13.out.trans (h45.mono hb13.out.size)))
   replace x0:=sB h45 x0
   replace x1:=sB h45 x1
   replace y0:=sB h45 y0
   replace y1:=sB h45 y1
   replace hq2:=Hd (hq2.out.keep (Keep.ofBelow h45) (by simp))
   have hB5:=Hd (hB3.out.trans (h45.mono hB3.out.size))
   have hB15:=Hd (hb13.out.trans (h45.mono hb13.out.size))
   replace hn:=Hd hn
   replace hp5:=Hd hp5
   clear hcT cC hb4 hnm hpl h45 hb13 hB3
   go_wp2_with fail
   obtain⟨p5,hp5e⟩:∃p5,w4.heap.size=p5:=⟨_,rfl⟩
   rw[hp5e]at hp5 ⊢
   generalize w4.alloc (.cells #[.slice an n cn,.slice ap (atN A.vars B.vars).length cp] 83)=w5 at *
   refine hcC.out.mono ?_
   rintro e wb ⟨vx,rfl,hW⟩
   have hbW:=hW.below
   have ownX:Hid (wb.ownsRow w5.heap.size 9 1 vx A.vars.length (textsV A.vars)):=Hd (by have:=hW.own;rw[textsV_length]at this;exact this)
   obtain⟨ax,cx,rfl⟩:=own_form4x ownX.out
   replace x1:=sB hbW x1
   replace y1:=sB hbW y1
   replace hq2:=Hd (hq2.out.keep (Keep.ofBelow hbW) (by simp))
   replace hp5:=Hd (hp5.out.keep (Keep.ofBelow hbW) (by simp))
   replace hpl5:=Hd ((hpl5.out.stay (stay_of_below hbW)).mono hbW.size)
   have hB:=Hd (hB5.out.trans (hbW.mono hB5.out.size))
   have hR5:=Hd (hR1.out.stay (hB15.out.trans (hbW.mono hB15.out.size)))
   have hs5:=hB5.out.size
   have hJ0:=Hd (JnW.start wb N (.slice ax A.vars.length cx))
   have hq2lt:=hq2.out.lt
   have hp5lt:=hp5.out.lt
   have y1b:=Hd y1
   rw[show([]:List (List V))=leftK A B 0 by rfl]at hJ0
   replace x1:=sB hJ0.out.below x1
   replace hdA:=Hd hdA
   replace hdB:=Hd hdB
   replace hrA:=Hd hrA
   replace hrB:=Hd hrB
   clear hcC hW hbW hB5 hB15 hR1 x0 y0 y1 hw1 hal
   go_wp2
   go_loopw [31] (fun i wr=>∃(k:Nat) (rv:Value),k≤A.rows.length∧i=.int .i64 (k:Int)∧Hid (JnW wb wr N (.slice ax A.vars.length cx) rv (leftK A B k))) (fun i _=>A.rows.length-(intOf i).toNat)
   case atStart=>exact⟨0,_,Nat.zero_le _,rfl,hJ0⟩
   case round=>
    clear hJ0 x1
    obtain⟨i,rv,hi,rfl,hJ⟩:=hrel
    obtain⟨w6,rfl⟩:∃w6:World,w6=wr:=⟨_,rfl⟩
    by_cases hlt:i<A.rows.length
    ·have hki:(i:Int)<(A.rows.length:Int):=by omega
     have hi1:=Hd (show i+1≤A.rows.length from hlt)
     have hwb6:=hB.out.trans (hJ.out.below.mono hB.out.size)
     obtain⟨g1,o1,a3,c3,rfl,hg1,hcell,hla⟩:=hrc.out i hlt
     replace hcell:=sB hwb6 hcell
     have hrw:=hrA.out _ (List.getElem_mem hlt)
     have hnext:=leftK_step A B hlt
     have hlen:(leftK A B i).length+1≤1048576:=by have:=leftK_len A B i;omega
     replace hla:=hla.stay hwb6
     obtain⟨q0,hq⟩:∃q0,w6.heap.size=q0:=⟨_,rfl⟩
     have hal7:Below w6.heap.size w6 (w6.alloc (.cells #[.slice a3 A.rows[i].length c3] 37)):=(Below.refl _ _).alloc (Nat.le_refl _) _
     have hM7:=hJ.out.rows.stay (fun b hS hlt=>hal7.block b hlt)
     have hJ7:=hJ.out.stay hal7
     have hla7:=hla.stay hal7
     have hbox:=(Blk.new w6 #[.slice a3 A.rows[i].length c3] 37).cell 0 rfl
     have hs7:=World.size_alloc w6 (.cells #[.slice a3 A.rows[i].length c3] 37)
     rw[hq]at hM7 hbox hs7
     have y1r:=sB hJ7.below y1b.out
     have hcT:=containsT_any N hN _ A.vars B.vars A.rows[i] B.rows n p5 q0 an cn _ _ _ hdA.out hdB.out hrw hrB.out hn.out (by omega) (⟨sB hJ7.below (hp5.out.cell 0 rfl),sB hJ7.below (hp5.out.cell 1 rfl),hbox,(hpl5.out.stay (stay_of_below hJ7.below)).mono hJ7.below.size,hla7⟩:MnW (w6.alloc (.cells #[.slice a3 A.rows[i].length c3] 37)) N n A.vars B.vars A.rows[i] p5 q0 an cn (.slice ap (atN A.vars B.vars).length cp) (.slice a3 A.rows[i].length c3)) (hR5.out.stay hJ7.below) b2
     generalize leftK A B i=L1 at *
     generalize B.rows.any (takes A.vars B.vars A.rows[i])=tk at *
     generalize A.rows[i]=x at *
     replace hcT:=Hd hcT
     replace hM7:=Hd hM7
     replace hJ7:=Hd hJ7
     replace hla7:=Hd hla7
     replace hlen:=Hd hlen
     replace hnext:=Hd hnext
     replace hs7:=Hd hs7
     have hbox2:=Hd hbox
     clear hwb6 hal7 hJ hla hrw hbox hg1
     go_wp2_with fail
     try rw[hq]
     generalize w6.alloc (.cells #[.slice a3 x.length c3] 37)=w7 at *
     refine hcT.out.mono ?_
     rintro e wv ⟨rfl,hb8⟩
     have hJ:=Hd (hJ7.out.stay hb8)
     have hM0:=Hd (hM7.out.stay (fun b hS hlt=>hb8.block b hlt))
     have hla:=Hd (hla7.out.stay hb8)
     have hbox:=sB hb8 hbox2.out
     have hs8:=hb8.size
     rw[hs7.out]at hs8
     clear hJ7 hM7 hla7 hb8 hcT hbox2 hcell y1r
     cases tk with
     |true=>
      rw[if_pos rfl]at hnext
      rw[←hnext.out]at hJ
      clear hM0 hla
      go_wp2
      go_roundw
      case rel=>exact⟨i+1,_,hi1.out,by go_num,hJ⟩
      case measure=>have:=hi1.out;simp[intOf];omega
     | false =>
      rw[if_neg (by decide)]at hnext
      have hq0:q0≤wv.heap.size:=by omega
      have hq0l:q0<wv.heap.size:=by omega
      replace hlen:=hlen.out
      replace hq:=Hd hq
      go_upto_region 10 with fail
      have hal:Below wv.heap.size wv wv.drew:=below_drewN (Below.refl _ _) 1
      have hJV:=hJ.out.stay hal
      have hMV:=hM0.out.stay (fun b hS hlt=>hal.block b hlt)
      have hlaV:=hla.out.stay hal
      have htlt:=hJ.out.tb.lt
      have hwV:wv.drew.heap.size=wv.heap.size:=rfl
      have hS0:Blk wv.drew wb.heap.size #[.slice ax A.vars.length cx,rv] 25∧∀b,q0≤b→b<wv.heap.size→wv.drew.heap[b]? = wv.heap[b]?:=⟨hJV.tb,fun _ _ _=>rfl⟩
      refine wp_region_late [7] (S:=fun V=>Blk V wb.heap.size #[.slice ax A.vars.length cx,rv] 25∧∀b,q0≤b→b<wv.heap.size→V.heap[b]? = wv.heap[b]?) (by kernel_rfl) hS0 (fun hS=>?_)
      have hV:=hS0
      clear hS0 hal hJ hla hM0
      generalize wv.drew=V0 at *
      have hcall:=Hd (row_any N (by omega) V0 _ _ hlaV)
      refine tlH 0 ?_ rfl (fun w' hS=>?_) hS ?_
      rotate_left
      ·
       skip
       go_simp
       try with_reducible rfl
      refine tlH 1 ?_ rfl (fun w' hS=>?_) hS ?_
      rotate_left
      ·
       have z0:=hS.1.cell 0 rfl;have z1:=hS.1.cell 1 rfl
       go_simp
       try with_reducible rfl
      refine tlH 2 ?_ rfl (fun w' hS=>?_) hS ?_
      rotate_left
      ·
       have z2:=(cell_heapx (hS.2 q0 (Nat.le_refl _) hq0l)).trans hbox
       go_simp
       try with_reducible rfl
      refine wpAnyL_ready (i:=3) (by kernel_rfl) rfl (fun K hK=>?_)
      clear hS
      go_simp
      refine(hcall.out).mono ?_
      rintro e w5 ⟨a9,c9,rfl,hb5,hl5⟩
      go_wp2_with fail
      refine hKo hK (⟨(hb5.block _ hV.1.lt).trans hV.1,fun b h1 h2=>(hb5.block b (by omega)).trans (hV.2 b h1 h2)⟩) (fun hS=>?_)
      clear hK K
      have hJ5:=hJV.stay hb5
      have hM5:=hMV.stay (fun b hS hlt=>hb5.block b hlt)
      have hs5:=hb5.size
      have hV5:∀b,q0≤b→b<wv.heap.size→w5.heap[b]? = wv.heap[b]?:=fun b h1 h2=>(hb5.block b (by omega)).trans (hV.2 b h1 h2)
      clear hcall hV hJV hMV hlaV
      refine wpAnyL_ready (i:=4) (by kernel_rfl) rfl (fun K hK=>?_)
      clear hS
      go_simp
      go_wp2_with fail
      have hal:=((Below.refl w5.heap.size w5).alloc (Nat.le_refl _) (.cells #[.slice a9 x.length c9] 37))
      have hJ6:=hJ5.stay hal
      have hM6:=hM5.stay (fun b hS hlt=>hal.block b hlt)
      have hl6:=hl5.stay (fun b hS hlt=>hal.block b hlt)
      have hs6:=World.size_alloc w5 (.cells #[.slice a9 x.length c9] 37)
      have hn6:(w5.alloc (.cells #[.slice a9 x.length c9] 37)).cell? ⟨w5.heap.size,0,none⟩=some (.slice a9 x.length c9):=(Blk.new w5 #[.slice a9 x.length c9] 37).cell 0 rfl
      have hV6:∀b,q0≤b→b<wv.heap.size→(w5.alloc (.cells #[.slice a9 x.length c9] 37)).heap[b]? = wv.heap[b]?:=fun b h1 h2=>(hal.block b (by omega)).trans (hV5 b h1 h2)
      refine hKo hK ⟨hJ6.tb,hV6⟩ (fun hS=>?_)
      clear hK K hJ5 hM5 hl5 hV5 hb5
      refine wpAnyL_ready (i:=5) (by kernel_rfl) rfl (fun K hK=>?_)
      clear hS
      refine wp_pushR (.tmp 42) (.tmp 45) rfl N (fun b=>wb.heap.size<b∧b<q0) (Fr V0.heap.size w5) _ _ rfl hM6 ?d2 w5.heap.size _ (.slice a9 x.length c9) rfl hn6 hl6 ?d3 hlen ?d5
      case d2=>intro b hb;rw[hs6];have:=hb.2;omega
      case d3=>intro b hb;exact⟨by rw[hs6];have:=hb.2;omega,fun h=>by have:=h.2;have:=hb.1;omega⟩
      intro v' w' hM' hg hvS
      have hgs:=hg.size
      rw[hs6]at hgs
      have hJ8:=Hd (hJ6.push hM' hg (fun g e=>by have:=hvS g e;exact⟨this.1,by rw[hs6];omega⟩) (fun b hb=>⟨hb.1,by have:=hb.2;omega⟩) (fun b hb=>⟨by have:=hb.1;omega,by have:=hb.2;omega⟩))
      have hV7:Blk w' wb.heap.size _ _:=(hg.block _ hJ6.tb.lt (fun e=>by have:=(hvS _ e.symm).1;omega)).trans hJ6.tb
      have hV8:∀b,q0≤b→b<wv.heap.size→w'.heap[b]? = wv.heap[b]?:=fun b h1 h2=>(hg.block b (by rw[hs6];omega) (fun e=>by have:=(hvS _ e.symm).2;omega)).trans (hV6 b h1 h2)
      obtain⟨ao7,cap7,hv7⟩:=hM'.form
      rw[List.length_append,List.length_singleton]at hv7
      subst hv7
      refine hKo hK ⟨hV7,hV8⟩ (fun hS=>?_)
      clear hK K hJ6 hM6 hl6 hn6 hM' hg hvS hV6 hV8
      refine tlH 6 ?_ rfl (fun w' hS=>?_) hS ?_
      rotate_left
      ·
       skip
       go_simp
       try with_reducible rfl
      refine wpAnyL_late (i:=7) (by kernel_rfl) rfl (by kernel_rfl) (fun K hK=>?_)
      clear hS
      have f1:=hV7.free 1
      have z0:=hV7.cell 0 rfl
      have z1:=hV7.cell 1 rfl
      go_simp
      go_wp2_with fail
      refine hK.out _ _ ?_
      clear hK K f1 hV7 z0 z1
      try simp only[List.getElem_toArray,List.getElem_cons_succ,List.getElem_cons_zero,Act.put,List.setIfInBounds_toArray,List.set_cons_zero,List.set_cons_succ]
      refine wpAnyL_done (by kernel_rfl) ?_ _
      rw[←hnext.out]at hJ8
      go_wp2
      go_roundw
      case rel=>exact⟨i+1,_,hi1.out,by go_num,hJ8⟩
      case measure=>have:=hi1.out;simp[intOf];omega
    ·have hki:¬(i:Int)<(A.rows.length:Int):=by omega
     obtain rfl:i=A.rows.length:=by omega
     have hd:=Hd (hJ.out.done (vars:=A.vars) hB.out ownX.out (by omega) hsA.out hq2.out (by omega))
     have z0:=hJ.out.tb.cell 0 rfl
     have z1:=hJ.out.tb.cell 1 rfl
     have hrb5:Blk w6 (w.heap.size+1+1) _ _:=(hJ.out.below.block _ hq2lt).trans hq2.out
     have f1:=Blk.free hrb5
     have g0:=hrb5.cell 0 rfl
     have g1:=hrb5.cell 1 rfl
     obtain⟨ao9,cap9,hrv⟩:=hJ.out.slice
     subst hrv
     go_wp2
     refine bodyPost_ret (v:=.agg #[.slice ax A.vars.length cx,.slice ao9 (leftK A B A.rows.length).length cap9]) (results_cell_row rfl _ _ (w.heap.size+1+1) 25 _ (0,0) _ rfl hd.out.1.eq Tryz.underlying25 rfl infoTab) rfl ⟨_,rfl,by rw[hz.out];exact hd.out.2⟩
end Go.Proofs.YtidplkfhodpdhaaGreatDoor.tab
