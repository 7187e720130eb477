/- Texts RefCmp, RefPlus, one behind the other. -/
import Derived.Test.YtidplkfhodpdhaaGreatDoorRefSums
set_option linter.unusedSimpArgs false
set_option linter.unusedVariables false
set_option maxRecDepth 100000
set_option maxHeartbeats 4000000
namespace Go.Proofs.YtidplkfhodpdhaaGreatDoor.dec
open Go.ChangeShapes Go.WideShapes Go.ChangeAt Go.RowKit kit
theorem rcompare_any(va vb:Value)(A B:List Nat)(w:World)(hva:IntsAt w va A)(hvb:IntsAt w vb B)(hA:dgs A)(hB:dgs B)(la:A.length≤100000)(lb:B.length≤100000):
 Calls Tryz.prog 176 #[va,vb] w fun e w'=>e=.returned (.int .i64 (sgn (vL A) (vL B)))∧w'=w:=by
 have ha:=fun(i:Int) (h0:-1000000000≤i) (h1:i≤1000000000)=>at_any va A i w hva (by omega) h0 h1
 have hb:=fun(i:Int) (h0:-1000000000≤i) (h1:i≤1000000000)=>at_any vb B i w hvb (by omega) h0 h1
 obtain⟨ao,ca,rfl⟩:=hva.form
 obtain⟨bo,cb,rfl⟩:=hvb.form
 clear hva hvb
 have lai:(A.length:Int)≤100000:=by omega
 have lbi:(B.length:Int)≤100000:=by omega
 replace ha:=Hd ha
 replace hb:=Hd hb
 replace hA:=Hd hA
 replace hB:=Hd hB
 go_enter Tryz.func176,Tryz.ntmps176
 go_wp2
 go_loop [5] (fun v=>∃k:Nat,k≤A.length+B.length+1∧v=.int .i64 ((k:Int)-1)∧Hid (∀j,k≤j→A.getD j 0=B.getD j 0)) (fun v=>(intOf v+1).toNat)
 case atStart=>
  refine⟨A.length+B.length+1,by omega,by congr 1;omega,fun j hj=>?_⟩
  rw[List.getD_eq_getElem?_getD,List.getD_eq_getElem?_getD,List.getElem?_eq_none (by omega),List.getElem?_eq_none (by omega)]
 case round =>
  obtain⟨k1,hk,rfl,heq⟩:=hrel
  by_cases h0:k1=0
  ·subst h0
   have hv:sgn (vL A) (vL B)=0:=by
    rw[vL_getD_ext hA.out hB.out (fun j=>heq.out j (by omega))];unfold sgn;simp
   replace hv:=Hd hv
   go_wp2
   go_ret
   exact⟨ret_int hv.out.symm,rfl⟩
  ·obtain⟨k,rfl⟩:∃k,k1=k+1:=⟨k1-1,by omega⟩
   rw[show(((k+1:Nat):Int)-1)=(k:Int) by omega]
   have hak:=ha.out (k:Int) (by omega) (by omega)
   have hbk:=hb.out (k:Int) (by omega) (by omega)
   rw[atL_nat]at hak hbk
   have hki:(k:Int)≤200000:=by omega
   by_cases he:A.getD k 0=B.getD k 0
   ·have heq':Hid (∀j,k≤j→A.getD j 0=B.getD j 0):=fun j hj=>by
     rcases Nat.lt_or_ge k j with h|h
     ·exact heq.out j h
     ·rw[show j=k by omega];exact he
    have hne:(((A.getD k 0:Nat):Int) != ((B.getD k 0:Nat):Int))=false:=by rw[he];simp
    generalize A.getD k 0=x at *
    generalize B.getD k 0=y at *
    clear he heq
    replace hak:=Hd hak
    replace hbk:=Hd hbk
    go_wp2_with (first|(go_at_call_of 184 (Value.slice ao A.length ca);refine hak.out.mono ?_;rintro e w' ⟨rfl,rfl⟩)|(go_at_call 184;refine hbk.out.mono ?_;rintro e w' ⟨rfl,rfl⟩))
    go_round
    case rel=>exact⟨k,by omega,rfl,heq'⟩
    case measure=>simp[intOf]
   ·have hne:(((A.getD k 0:Nat):Int) != ((B.getD k 0:Nat):Int))=true:=by simp only[bne_iff_ne,ne_eq];omega
    by_cases hl:A.getD k 0<B.getD k 0
    ·have hv:(-1:Int)=sgn (vL A) (vL B):=by
      have h:=vL_cmp_lt hA.out hB.out (k:=k) (fun j hj=>heq.out j (by omega)) hl
      unfold sgn;simp[h]
     clear heq he
     generalize A.getD k 0=x at *
     generalize B.getD k 0=y at *
     replace hv:=Hd hv
     replace hak:=Hd hak
     replace hbk:=Hd hbk
     go_wp2_with (first|(go_at_call_of 184 (Value.slice ao A.length ca);refine hak.out.mono ?_;rintro e w' ⟨rfl,rfl⟩)|(go_at_call 184;refine hbk.out.mono ?_;rintro e w' ⟨rfl,rfl⟩))
     all_goals first|(exfalso;omega)|(go_ret;exact⟨ret_int hv.out,rfl⟩)
    ·have hv:(1:Int)=sgn (vL A) (vL B):=by
      have h:=vL_cmp_lt hB.out hA.out (k:=k) (fun j hj=>(heq.out j (by omega)).symm) (by omega)
      unfold sgn;simp[h,Nat.lt_asymm h]
     clear heq he
     generalize A.getD k 0=x at *
     generalize B.getD k 0=y at *
     replace hv:=Hd hv
     replace hak:=Hd hak
     replace hbk:=Hd hbk
     go_wp2_with (first|(go_at_call_of 184 (Value.slice ao A.length ca);refine hak.out.mono ?_;rintro e w' ⟨rfl,rfl⟩)|(go_at_call 184;refine hbk.out.mono ?_;rintro e w' ⟨rfl,rfl⟩))
     all_goals first|(exfalso;omega)|(go_ret;exact⟨ret_int hv.out,rfl⟩)
structure RW(w W:World)(s t:Bool)(va vb:Value)(sa sb:Nat):Prop where
 below:Below w.heap.size w W
 b0:Blk W w.heap.size (numc s va sa) 167
 b1:Blk W (w.heap.size+1) (numc t vb sb) 167
 b2:Blk W (w.heap.size+1+1) (numc false (.slice none 0 0) 0) 167
theorem RW.made(w:World)(s t:Bool)(va vb:Value)(sa sb:Nat):RW w (((w.alloc (.cells (numc s va sa) 167)).alloc (.cells (numc t vb sb) 167)).alloc (.cells (numc false (.slice none 0 0) 0) 167)) s t va vb sa sb:=by
 refine⟨((((Keep.refl [] w).alloc _).alloc _).alloc _).below,((Blk.new _ _ _).alloc _).alloc _,?_,?_⟩
 ·have:=(Blk.new (w.alloc (.cells (numc s va sa) 167)) (numc t vb sb) 167).alloc (.cells (numc false (.slice none 0 0) 0) 167)
  rwa [World.size_alloc]at this
 ·have:=Blk.new ((w.alloc (.cells (numc s va sa) 167)).alloc (.cells (numc t vb sb) 167)) (numc false (.slice none 0 0) 0) 167
  rwa [World.size_alloc,World.size_alloc]at this
theorem RW.on{w W W':World}{s t:Bool}{va vb:Value}{sa sb:Nat}(h:RW w W s t va vb sa sb)(hb:Below W.heap.size W W'):RW w W' s t va vb sa sb:=
 ⟨h.below.trans (hb.mono h.below.size),h.b0.keep (Keep.ofBelow hb) (by simp),h.b1.keep (Keep.ofBelow hb) (by simp),h.b2.keep (Keep.ofBelow hb) (by simp)⟩
theorem RW.drewN{w W:World}{s t:Bool}{va vb:Value}{sa sb:Nat}(h:RW w W s t va vb sa sb)(n:Nat):RW w (W.drewN n) s t va vb sa sb:=h.on (below_drewN (Below.refl _ _) n)
theorem rplus_own(s t:Bool)(va vb:Value)(A B:List Nat)(sa sb:Nat)(w:World)(hva:IntsAt w va A)(hvb:IntsAt w vb B)(hA:dgs A)(hB:dgs B)(na:1≤A.length)(nb:1≤B.length)
 (la:A.length≤50000)(lb:B.length≤50000)(ha:sa≤40000)(hb:sb≤40000):
 Calls Tryz.prog 147 #[.agg (numc s va sa),.agg (numc t vb sb)] w fun e w'=>∃v D,
  e=.returned (.agg (numc (plusP s (10 ^ (max sa sb-sa) * vL A) t (10 ^ (max sa sb-sb) * vL B)).1 v (max sa sb)))∧Below w.heap.size w w'∧IntsAt w' v D∧dgs D ∧
  vL D=(plusP s (10 ^ (max sa sb-sa) * vL A) t (10 ^ (max sa sb-sb) * vL B)).2∧1≤D.length∧(D.length≤max sa sb-sa+A.length∨D.length≤max sa sb-sb+B.length∨10 ^ (D.length-1)≤vL D)∧(∀k,v.ownBlock=some k→w.heap.size≤k):=by
 obtain⟨S,hS⟩:∃S,max sa sb=S:=⟨_,rfl⟩
 have hSa:sa≤S:=by omega
 have hSb:sb≤S:=by omega
 have hS1:S≤40000:=by omega
 have hai:(sa:Int)≤40000:=by omega
 have hbi:(sb:Int)≤40000:=by omega
 replace hS:=Hd hS
 rw[hS.out]
 obtain⟨p,hp⟩:∃p,plusP s (10 ^ (S-sa) * vL A) t (10 ^ (S-sb) * vL B)=p:=⟨_,rfl⟩
 rw[hp]
 replace hp:=Hd hp
 go_enter Tryz.func147,Tryz.ntmps147
 go_upto_region 1 with(fail)
 have pw:RW w (((w.alloc (.cells (numc s va sa) 167)).alloc (.cells (numc t vb sb) 167)).alloc (.cells #[.bool false,.slice none 0 0,.int .i64 0] 167)) s t va vb sa sb:=RW.made w s t va vb sa sb
 generalize (((w.alloc (.cells (numc s va sa) 167)).alloc (.cells (numc t vb sb) 167)).alloc (.cells #[.bool false,.slice none 0 0,.int .i64 0] 167))=W at *
 have a0:W.cell? ⟨w.heap.size,0,none⟩=some (.bool s):=pw.b0.cell 0 rfl
 have a1:W.cell? ⟨w.heap.size,1,none⟩=some va:=pw.b0.cell 1 rfl
 have a2:W.cell? ⟨w.heap.size,2,none⟩=some (.int .i64 sa):=pw.b0.cell 2 rfl
 have b0:W.cell? ⟨w.heap.size+1,0,none⟩=some (.bool t):=pw.b1.cell 0 rfl
 have b1:W.cell? ⟨w.heap.size+1,1,none⟩=some vb:=pw.b1.cell 1 rfl
 have b2:W.cell? ⟨w.heap.size+1,2,none⟩=some (.int .i64 sb):=pw.b1.cell 2 rfl
 have hvaW:=hva.below pw.below
 have hvbW:=hvb.below pw.below
 replace pw:=Hd pw
 replace hvaW:=Hd hvaW
 replace hvbW:=Hd hvbW
 replace hA:=Hd hA
 replace hB:=Hd hB
 clear hva hvb
 go_upto_if 13 with(fail)
 go_cut [5] (fun v wx=>v=.int .i64 S∧wx=W)
 case first=>
  as_aux_lemma=>
   by_cases h1:sa<sb
   ·have h1i:(sa:Int)<(sb:Int):=by omega
    obtain rfl:sb=S:=by rw[←hS.out];omega
    go_wp2
    go_meet
    exact⟨rfl,rfl⟩
   ·have h1i:¬(sa:Int)<(sb:Int):=by omega
    obtain rfl:sa=S:=by rw[←hS.out];omega
    go_wp2
    go_meet
    exact⟨rfl,rfl⟩
 obtain⟨rfl,hwx⟩:=hcut
 rw[hwx];clear hwx
 go_wp2_with fail
 refine(rscaled_any s va A sa S W hvaW.out na (by omega) hSa (by omega)).mono ?_
 rintro e w1 ⟨vx,rfl,hI1⟩
 have pw1:=pw.out.on hI1.below
 have hx1:=hI1.ints
 have hvb1:=hvbW.out.below hI1.below
 clear a0 a1 a2 b0 b1 b2 pw hI1 hvaW hvbW
 have b0:w1.cell? ⟨w.heap.size+1,0,none⟩=some (.bool t):=pw1.b1.cell 0 rfl
 have b1:w1.cell? ⟨w.heap.size+1,1,none⟩=some vb:=pw1.b1.cell 1 rfl
 have b2:w1.cell? ⟨w.heap.size+1,2,none⟩=some (.int .i64 sb):=pw1.b1.cell 2 rfl
 replace pw1:=Hd pw1
 replace hx1:=Hd hx1
 replace hvb1:=Hd hvb1
 go_wp2_with fail
 refine(rscaled_any t vb B sb S w1 hvb1.out nb (by omega) hSb (by omega)).mono ?_
 rintro e w2 ⟨vy,rfl,hI2⟩
 have pw2:=pw1.out.on hI2.below
 have hx2:=hx1.out.below hI2.below
 have hy2:=hI2.ints
 clear b0 b1 b2 pw1 hI2 hx1 hvb1
 have a0:w2.cell? ⟨w.heap.size,0,none⟩=some (.bool s):=pw2.b0.cell 0 rfl
 have b0:w2.cell? ⟨w.heap.size+1,0,none⟩=some (.bool t):=pw2.b1.cell 0 rfl
 have eX:=vL_pad (S-sa) A
 have eY:=vL_pad (S-sb) B
 have dX:=dgs_pad (S-sa) hA.out
 have dY:=dgs_pad (S-sb) hB.out
 have lX:(List.replicate (S-sa) 0++A).length=S-sa+A.length:=by rw[List.length_append,List.length_replicate]
 have lY:(List.replicate (S-sb) 0++B).length=S-sb+B.length:=by rw[List.length_append,List.length_replicate]
 have hpo:=hp.out
 rw[←eX,←eY]at hpo
 clear hp
 generalize List.replicate (S-sa) 0++A=X at *
 generalize List.replicate (S-sb) 0++B=Y at *
 have lX1:X.length≤100000:=by omega
 have lY1:Y.length≤100000:=by omega
 clear eX eY hA hB
 replace hpo:=Hd hpo
 replace pw2:=Hd pw2
 replace hx2:=Hd hx2
 replace hy2:=Hd hy2
 replace dX:=Hd dX
 replace dY:=Hd dY
 by_cases hst:s=t
 ·subst hst
  have hpp:plusP s (vL X) s (vL Y)=(s,vL X+vL Y):=if_pos rfl
  obtain rfl:p=(s,vL X+vL Y):=hpo.out.symm.trans hpp
  clear hpp hpo
  have hss:(s==s)=true:=by cases s<;>rfl
  go_wp2_with fail
  go_region_with (go_at_call 175;refine(radd_any vx vy X Y _ ?_ ?_ dX.out dY.out lX1 lY1).mono ?_;exact hx2.out.drewN 1;exact hy2.out.drewN 1;rintro e w3 ⟨v,D,rfl,hI3,hd3⟩;replace hd3:=Hd hd3;obtain⟨vo,vc,rfl⟩:=hI3.ints.form;have pw3:=(pw2.out.drewN 1).on hI3.below;have c0:w3.cell? ⟨w.heap.size,0,none⟩=some (.bool s):=pw3.b0.cell 0 rfl;have e0:w3.cell? ⟨w.heap.size+1+1,0,none⟩=some (.bool false):=pw3.b2.cell 0 rfl;have e1:w3.cell? ⟨w.heap.size+1+1,1,none⟩=some (.slice none 0 0):=pw3.b2.cell 1 rfl;have e2:w3.cell? ⟨w.heap.size+1+1,2,none⟩=some (.int .i64 0):=pw3.b2.cell 2 rfl;have g0:w3.frozen? ⟨w.heap.size+1+1,0,none⟩=false:=pw3.b2.free 0;have g1:w3.frozen? ⟨w.heap.size+1+1,1,none⟩=false:=pw3.b2.free 1;have g2:w3.frozen? ⟨w.heap.size+1+1,2,none⟩=false:=pw3.b2.free 2)
  all_goals
   have r0:=Hd (((pw3.b2.set 0 (.bool s)).set 1 (.slice vo D.length vc)).set 2 (.int .i64 S))
   have rb:=Hd (((pw3.below.setCell (p:=⟨w.heap.size+1+1,0,none⟩) (by show w.heap.size≤w.heap.size+1+1;omega) (.bool s)).setCell (p:=⟨w.heap.size+1+1,1,none⟩) (by show w.heap.size≤w.heap.size+1+1;omega) (.slice vo D.length vc)).setCell (p:=⟨w.heap.size+1+1,2,none⟩) (by show w.heap.size≤w.heap.size+1+1;omega) (.int .i64 S))
   have hlt2:w.heap.size+1+1<(w2.drewN 1).heap.size:=pw2.out.b2.lt
   have ri:=Hd (own_ints (own_set (own_set (own_set hI3.own hlt2 0 (.bool s)) hlt2 1 (.slice vo D.length vc)) hlt2 2 (.int .i64 S)))
   have hfr:Hid (∀k,(Value.slice vo D.length vc).ownBlock=some k→w.heap.size≤k):=fun k hk=>Nat.le_trans (Nat.le_trans (Nat.le_add_right _ 2) (Nat.le_of_lt hlt2)) (hI3.own.lt k hk).1
   clear e0 e1 e2 g0 g1 g2 c0 hI3 pw3
   go_wp2_with fail
   exact bodyPost_ret (v:=.agg (numc s (.slice vo D.length vc) S)) (results_cell_row rfl _ _ (w.heap.size+1+1) 167 _ (0,0) _ rfl r0.out.eq Tryz.underlying167 rfl infoNum) rfl
    ⟨_,rfl,rb.out,D,ri.out,hd3.out.1,hd3.out.2.1,by have:=hd3.out;omega,by have:=hd3.out;omega,hfr.out⟩
 ·have hss:(s==t)=false:=by cases s<;>cases t<;>first|rfl|exact absurd rfl hst
  have hcm:=Hd (rcompare_any vx vy X Y w2 hx2.out hy2.out dX.out dY.out lX1 lY1)
  by_cases hlt:vL X<vL Y
  ·have hpp:plusP s (vL X) t (vL Y)=(t,vL Y-vL X):=by unfold plusP;rw[if_neg hst,if_pos hlt]
   obtain rfl:p=(t,vL Y-vL X):=hpo.out.symm.trans hpp
   have hsg:sgn (vL X) (vL Y)=-1:=if_pos hlt
   rw[hsg]at hcm
   clear hpp hpo hsg
   go_wp2_with (go_at_call 176;refine hcm.out.mono ?_;rintro e w2 ⟨rfl,rfl⟩)
   go_region_with (go_at_call 177;refine(rsub_any vy vx Y X _ ?_ ?_ dY.out dX.out (Nat.le_of_lt hlt) lY1 lX1).mono ?_;exact hy2.out.drewN 1;exact hx2.out.drewN 1;rintro e w3 ⟨v,D,rfl,hI3,hd3⟩;replace hd3:=Hd hd3;obtain⟨vo,vc,rfl⟩:=hI3.ints.form;have pw3:=(pw2.out.drewN 1).on hI3.below;have c0:w3.cell? ⟨w.heap.size+1,0,none⟩=some (.bool t):=pw3.b1.cell 0 rfl;have e0:w3.cell? ⟨w.heap.size+1+1,0,none⟩=some (.bool false):=pw3.b2.cell 0 rfl;have e1:w3.cell? ⟨w.heap.size+1+1,1,none⟩=some (.slice none 0 0):=pw3.b2.cell 1 rfl;have e2:w3.cell? ⟨w.heap.size+1+1,2,none⟩=some (.int .i64 0):=pw3.b2.cell 2 rfl;have g0:w3.frozen? ⟨w.heap.size+1+1,0,none⟩=false:=pw3.b2.free 0;have g1:w3.frozen? ⟨w.heap.size+1+1,1,none⟩=false:=pw3.b2.free 1;have g2:w3.frozen? ⟨w.heap.size+1+1,2,none⟩=false:=pw3.b2.free 2)
   all_goals
    have r0:=Hd (((pw3.b2.set 0 (.bool t)).set 1 (.slice vo D.length vc)).set 2 (.int .i64 S))
    have rb:=Hd (((pw3.below.setCell (p:=⟨w.heap.size+1+1,0,none⟩) (by show w.heap.size≤w.heap.size+1+1;omega) (.bool t)).setCell (p:=⟨w.heap.size+1+1,1,none⟩) (by show w.heap.size≤w.heap.size+1+1;omega) (.slice vo D.length vc)).setCell (p:=⟨w.heap.size+1+1,2,none⟩) (by show w.heap.size≤w.heap.size+1+1;omega) (.int .i64 S))
    have hlt2:w.heap.size+1+1<(w2.drewN 1).heap.size:=pw2.out.b2.lt
    have ri:=Hd (own_ints (own_set (own_set (own_set hI3.own hlt2 0 (.bool t)) hlt2 1 (.slice vo D.length vc)) hlt2 2 (.int .i64 S)))
    have hfr:Hid (∀k,(Value.slice vo D.length vc).ownBlock=some k→w.heap.size≤k):=fun k hk=>Nat.le_trans (Nat.le_trans (Nat.le_add_right _ 2) (Nat.le_of_lt hlt2)) (hI3.own.lt k hk).1
    clear e0 e1 e2 g0 g1 g2 c0 hI3 pw3
    go_wp2_with fail
    exact bodyPost_ret (v:=.agg (numc t (.slice vo D.length vc) S)) (results_cell_row rfl _ _ (w.heap.size+1+1) 167 _ (0,0) _ rfl r0.out.eq Tryz.underlying167 rfl infoNum) rfl
     ⟨_,rfl,rb.out,D,ri.out,hd3.out.1,by have:=hd3.out.2.1;omega,by have:=hd3.out;omega,by have:=hd3.out;omega,hfr.out⟩
  ·have hpp:plusP s (vL X) t (vL Y)=(s,vL X-vL Y):=by unfold plusP;rw[if_neg hst,if_neg hlt]
   obtain rfl:p=(s,vL X-vL Y):=hpo.out.symm.trans hpp
   have hsg:¬sgn (vL X) (vL Y)<0:=by unfold sgn;rw[if_neg hlt];split<;>decide
   clear hpp hpo
   generalize sgn (vL X) (vL Y)=sg at *
   go_wp2_with (go_at_call 176;refine hcm.out.mono ?_;rintro e w2 ⟨rfl,rfl⟩)
   go_region_with (go_at_call 177;refine(rsub_any vx vy X Y _ ?_ ?_ dX.out dY.out (Nat.le_of_not_lt hlt) lX1 lY1).mono ?_;exact hx2.out.drewN 1;exact hy2.out.drewN 1;rintro e w3 ⟨v,D,rfl,hI3,hd3⟩;replace hd3:=Hd hd3;obtain⟨vo,vc,rfl⟩:=hI3.ints.form;have pw3:=(pw2.out.drewN 1).on hI3.below;have c0:w3.cell? ⟨w.heap.size,0,none⟩=some (.bool s):=pw3.b0.cell 0 rfl;have e0:w3.cell? ⟨w.heap.size+1+1,0,none⟩=some (.bool false):=pw3.b2.cell 0 rfl;have e1:w3.cell? ⟨w.heap.size+1+1,1,none⟩=some (.slice none 0 0):=pw3.b2.cell 1 rfl;have e2:w3.cell? ⟨w.heap.size+1+1,2,none⟩=some (.int .i64 0):=pw3.b2.cell 2 rfl;have g0:w3.frozen? ⟨w.heap.size+1+1,0,none⟩=false:=pw3.b2.free 0;have g1:w3.frozen? ⟨w.heap.size+1+1,1,none⟩=false:=pw3.b2.free 1;have g2:w3.frozen? ⟨w.heap.size+1+1,2,none⟩=false:=pw3.b2.free 2)
   all_goals
    have r0:=Hd (((pw3.b2.set 0 (.bool s)).set 1 (.slice vo D.length vc)).set 2 (.int .i64 S))
    have rb:=Hd (((pw3.below.setCell (p:=⟨w.heap.size+1+1,0,none⟩) (by show w.heap.size≤w.heap.size+1+1;omega) (.bool s)).setCell (p:=⟨w.heap.size+1+1,1,none⟩) (by show w.heap.size≤w.heap.size+1+1;omega) (.slice vo D.length vc)).setCell (p:=⟨w.heap.size+1+1,2,none⟩) (by show w.heap.size≤w.heap.size+1+1;omega) (.int .i64 S))
    have hlt2:w.heap.size+1+1<(w2.drewN 1).heap.size:=pw2.out.b2.lt
    have ri:=Hd (own_ints (own_set (own_set (own_set hI3.own hlt2 0 (.bool s)) hlt2 1 (.slice vo D.length vc)) hlt2 2 (.int .i64 S)))
    have hfr:Hid (∀k,(Value.slice vo D.length vc).ownBlock=some k→w.heap.size≤k):=fun k hk=>Nat.le_trans (Nat.le_trans (Nat.le_add_right _ 2) (Nat.le_of_lt hlt2)) (hI3.own.lt k hk).1
    clear e0 e1 e2 g0 g1 g2 c0 hI3 pw3
    go_wp2_with fail
    exact bodyPost_ret (v:=.agg (numc s (.slice vo D.length vc) S)) (results_cell_row rfl _ _ (w.heap.size+1+1) 167 _ (0,0) _ rfl r0.out.eq Tryz.underlying167 rfl infoNum) rfl
     ⟨_,rfl,rb.out,D,ri.out,hd3.out.1,by have:=hd3.out.2.1;omega,by have:=hd3.out;omega,by have:=hd3.out;omega,hfr.out⟩
theorem rplus_any(s t:Bool)(va vb:Value)(A B:List Nat)(sa sb:Nat)(w:World)(hva:IntsAt w va A)(hvb:IntsAt w vb B)(hA:dgs A)(hB:dgs B)(na:1≤A.length)(nb:1≤B.length)
 (la:A.length≤50000)(lb:B.length≤50000)(ha:sa≤40000)(hb:sb≤40000):
 Calls Tryz.prog 147 #[.agg (numc s va sa),.agg (numc t vb sb)] w fun e w'=>∃v D,
  e=.returned (.agg (numc (plusP s (10 ^ (max sa sb-sa) * vL A) t (10 ^ (max sa sb-sb) * vL B)).1 v (max sa sb)))∧Below w.heap.size w w'∧IntsAt w' v D∧dgs D ∧
  vL D=(plusP s (10 ^ (max sa sb-sa) * vL A) t (10 ^ (max sa sb-sb) * vL B)).2∧1≤D.length∧(D.length≤max sa sb-sa+A.length∨D.length≤max sa sb-sb+B.length∨10 ^ (D.length-1)≤vL D):=
 (rplus_own s t va vb A B sa sb w hva hvb hA hB na nb la lb ha hb).mono fun e w' ⟨v,D,h1,h2,h3,h4,h5,h6,h7,_⟩=>⟨v,D,h1,h2,h3,h4,h5,h6,h7⟩
end Go.Proofs.YtidplkfhodpdhaaGreatDoor.dec
