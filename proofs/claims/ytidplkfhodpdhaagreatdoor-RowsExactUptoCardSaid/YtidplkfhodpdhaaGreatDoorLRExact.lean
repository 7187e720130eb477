/- Joins, unions, differences, projections, distinct and sorted rows are the reference's, of any two tables, which may be or not; what is handed in stays; no two rows share memory: for every two tables, a list of variables, a language and a list of numbers, not above the bound of the statement, that may be read, where the listed variables of the library hold what the program's text lays. -/
import Derived.Test.YtidplkfhodpdhaaGreatDoorRxA
import Derived.Test.YtidplkfhodpdhaaGreatDoorTabWake
set_option linter.unusedSimpArgs false
set_option linter.unusedVariables false
set_option maxRecDepth 100000
set_option maxHeartbeats 16000000
namespace Go.Proofs.YtidplkfhodpdhaaGreatDoor.tab
open Go.ChangeShapes Go.WideShapes Go.ChangeAt Go.RowKit kit dec val stab
open hyp (RowA TextsA CellsStay stay_of_below textsV textsV_length own_row OW Ov Shp)
theorem rowsA_i64{w:World}{N:Nat}{v:Value}{rs:List (List V)}(h:RowsA w N v rs):∀r∈rs,in64L r:=fun r hr=>by
 obtain⟨vs,h1,-,h3⟩:=h
 obtain⟨j,hj,rfl⟩:=List.getElem_of_mem hr
 exact LA.in64 (h3 j (by omega) hj)
theorem res_o{w0 w w':World}{pw N:Nat}{v:Value}{t:Tab}(h:TabO w w' N v t)(hp:pw<w.heap.size):Below w.heap.size w w'∧(∃a n c a2 n2 c2,v=.agg #[.slice a n c,.slice a2 n2 c2])∧Tk w0 w' pw N v t:=by
 have hO:=h
 obtain⟨vv,rv,rfl,hb,hown,-,hM⟩:=h
 obtain⟨a,c,rfl⟩:=own_form4x hown
 obtain⟨a2,c2,rfl⟩:=hM.form
 exact⟨hb,⟨_,_,_,_,_,_,rfl⟩,Tk.ofO hO hp⟩
theorem res_s{w0 w w':World}{pw N:Nat}{v:Value}{t:Tab}(h:TabS w0 w w' N v t)(hp:pw<w.heap.size):Below w.heap.size w w'∧(∃a n c a2 n2 c2,v=.agg #[.slice a n c,.slice a2 n2 c2])∧Tk w0 w' pw N v t:=by
 obtain⟨a,c,a2,c2,e⟩:=h.2.1
 exact⟨h.1,⟨_,_,_,_,_,_,e⟩,Tk.ofS h hp⟩
theorem res_p{w0 w w':World}{pw N:Nat}{vx v:Value}{A:Tab}{X:List ByteArray}(hX:TextsA w0 w0.heap.size vx X)(h:PrS w0 w w' N vx v (projT A X).rows)(hp:pw<w.heap.size):Below w.heap.size w w'∧(∃a n c a2 n2 c2,v=.agg #[.slice a n c,.slice a2 n2 c2])∧Tk w0 w' pw N v (projT A X):=by
 have hP:=h
 obtain⟨hb,rv,rfl,X',-,-,hrj,-⟩:=h
 obtain⟨a,c,rfl,-⟩:=hX.form
 obtain⟨a2,c2,rfl⟩:=hrj.form
 exact⟨hb,⟨_,_,_,_,_,_,rfl⟩,Tk.ofP hP hX hp⟩
theorem rexact_any (w : World) (hE : EnvD w) (v va ra vb rb vv nv : Value) (A B : Tab) (X : List ByteArray) (lang : Int) (L : List Int) (hT : TwoA w 1048576 v va ra vb rb vv nv A B X lang L) :
 Calls Tryz.prog 5 #[v] w fun e w'=>e=.returned (.bool true)∧Below w.heap.size w w':=by
 obtain⟨av,cv,hav,-⟩:=hT.av.form
 obtain⟨ar,cr,har,-,-⟩:=hT.ar.form
 obtain⟨bv,dv,hbv,-⟩:=hT.bv.form
 obtain⟨br,dr,hbr,-,-⟩:=hT.br.form
 obtain⟨xv,ex,hxv,-⟩:=hT.xs.form
 obtain⟨nv,en,hnv,-,-⟩:=hT.ns.form
 rw[hyp.numsV_length]at hnv
 subst hav har hbv hbr hxv hnv
 have hveq:=hT.eq
 subst hveq
 have hfew:=hT.few
 have hq:=Blk.new w #[.slice av A.vars.length cv,.slice ar A.rows.length cr,.slice bv B.vars.length dv,.slice br B.rows.length dr,.slice xv X.length ex,.int .i64 lang,.slice nv L.length en] 42
 have hal:Below w.heap.size w (w.alloc (.cells #[.slice av A.vars.length cv,.slice ar A.rows.length cr,.slice bv B.vars.length dv,.slice br B.rows.length dr,.slice xv X.length ex,.int .i64 lang,.slice nv L.length en] 42)):=(Below.refl _ _).alloc (Nat.le_refl _) _
 have cL:=Hd (light9_any _ 1048576 (by omega) _ _ _ _ _ _ _ A B X lang L (hT.stay hal))
 have x0:=hq.cell 0 rfl
 have x1:=hq.cell 1 rfl
 have x2:=hq.cell 2 rfl
 have x3:=hq.cell 3 rfl
 have x4:=hq.cell 4 rfl
 have x5:=hq.cell 5 rfl
 replace hal:=Hd hal
 clear hq
 go_enter Tryz.func5,Tryz.ntmps5
 go_wp2_with fail
 refine cL.out.mono ?_
 rintro e w2 ⟨rfl,hb2⟩
 replace x0:=sB hb2 x0
 replace x1:=sB hb2 x1
 replace x2:=sB hb2 x2
 replace x3:=sB hb2 x3
 replace x4:=sB hb2 x4
 replace x5:=sB hb2 x5
 have hB2:=hal.out.trans (hb2.mono hal.out.size)
 cases hl:lightT A B with
 |false=>
  replace hB2:=Hd hB2
  clear cL hb2 hal x0 x1 x2 x3 x4 x5
  go_wp2_with fail
  refine(wakes9_any _ (hE.env.below hB2.out)).mono ?_
  rintro e wz ⟨rfl,hbz⟩
  have hbzz:=Hd (hB2.out.trans (hbz.mono hB2.out.size))
  clear hbz
  go_wp2
  go_ret
  exact⟨rfl,hbzz.out⟩
 | true =>
  obtain⟨l1,l2,l3,l4⟩:=light_parts hl
  obtain⟨wtA,wtB⟩:=wt_light hl
  have kA:=Hd (show KeyL A from key_light fun r hr=>by have:=wtA r hr;omega)
  have iA:=Hd (show in64T A from rowsA_i64 hT.ar)
  have hXl:X.length≤1048576:=by omega
  replace hl:=Hd hl
  clear wtA wtB hfew
  have hTh:=Hd (fun V (h:Below w.heap.size w V)=>hT.stay h)
  have hEh:=Hd (fun V (h:Below w.heap.size w V)=>hE.below h)
  have c1:=Hd (copyTab_any 1048576 (by omega) w2 _ A (hTh.out _ hB2).tabA (by omega) (by omega))
  have c2:=Hd (fun V (h:Below w.heap.size w V)=>copyTab_any 1048576 (by omega) V _ B (hTh.out _ h).tabB (by omega) (by omega))
  clear cL hb2 hal hT hE
  go_wp2_with fail
  refine(c1.out).mono ?_
  rintro e w3 ⟨v,rfl,hO⟩
  obtain⟨vv,rv,rfl,hbw3,hown,hszs,hMR⟩:=hO
  obtain⟨anw3,cnw3,hvn⟩:=own_form4x hown
  obtain⟨arw3,crw3,hvr⟩:=hMR.form
  subst hvn
  subst hvr
  have tw3:TabA w3 1048576 _ _:=⟨_,_,rfl,⟨own_row (by rw[textsV_length];exact hown),hszs⟩,hMR.read⟩
  clear hown hszs hMR
  have halw4:Below w3.heap.size w3 (w3.alloc (.cells #[.slice anw3 A.vars.length cnw3,.slice arw3 A.rows.length crw3] 25)):=(Below.refl _ _).alloc (Nat.le_refl _) _
  have qw4:=Blk.new w3 #[.slice anw3 A.vars.length cnw3,.slice arw3 A.rows.length crw3] 25
  have tw4:=tw3.stay halw4
  have hw3:=hB2.trans (hbw3.mono hB2.size)
  have hw4:=hw3.trans (halw4.mono hw3.size)
  replace x0:=sB hbw3 x0
  replace x1:=sB hbw3 x1
  replace x2:=sB hbw3 x2
  replace x3:=sB hbw3 x3
  replace x4:=sB hbw3 x4
  replace x5:=sB hbw3 x5
  replace x0:=sB halw4 x0
  replace x1:=sB halw4 x1
  replace x2:=sB halw4 x2
  replace x3:=sB halw4 x3
  replace x4:=sB halw4 x4
  replace x5:=sB halw4 x5
  clear hbw3 halw4 hw3 tw3 c1
  have c2':=Hd (c2.out _ hw4)
  clear c2
  go_wp2_with fail
  obtain⟨pa,hpa⟩:∃p,w3.heap.size=p:=⟨_,rfl⟩
  rw[hpa]at qw4
  try rw[hpa]
  generalize w3.alloc (.cells #[.slice anw3 A.vars.length cnw3,.slice arw3 A.rows.length crw3] 25)=w4 at *
  replace hpa:=Hd hpa
  refine(c2'.out).mono ?_
  rintro e w5 ⟨v,rfl,hO⟩
  obtain⟨vv,rv,rfl,hbw5,hown,hszs,hMR⟩:=hO
  obtain⟨anw5,cnw5,hvn⟩:=own_form4x hown
  obtain⟨arw5,crw5,hvr⟩:=hMR.form
  subst hvn
  subst hvr
  have tw5:TabA w5 1048576 _ _:=⟨_,_,rfl,⟨own_row (by rw[textsV_length];exact hown),hszs⟩,hMR.read⟩
  clear hown hszs hMR
  have halw6:Below w5.heap.size w5 (w5.alloc (.cells #[.slice anw5 B.vars.length cnw5,.slice arw5 B.rows.length crw5] 25)):=(Below.refl _ _).alloc (Nat.le_refl _) _
  have qw6:=Blk.new w5 #[.slice anw5 B.vars.length cnw5,.slice arw5 B.rows.length crw5] 25
  have tw6:=tw5.stay halw6
  have hw5:=hw4.trans (hbw5.mono hw4.size)
  have hw6:=hw5.trans (halw6.mono hw5.size)
  replace x0:=sB hbw5 x0
  replace x1:=sB hbw5 x1
  replace x2:=sB hbw5 x2
  replace x3:=sB hbw5 x3
  replace x4:=sB hbw5 x4
  replace x5:=sB hbw5 x5
  replace x0:=sB halw6 x0
  replace x1:=sB halw6 x1
  replace x2:=sB halw6 x2
  replace x3:=sB halw6 x3
  replace x4:=sB halw6 x4
  replace x5:=sB halw6 x5
  have hb46:=hbw5.trans (halw6.mono hbw5.size)
  have q46:=qw4.keep (Keep.ofBelow hb46) (by simp)
  have t46:=tw4.stay hb46
  clear hbw5 halw6 hw5 tw5 c2' hb46 qw4 tw4 hw4
  go_upto_region 5 with fail
  obtain⟨pb,hpb⟩:∃p,w5.heap.size=p:=⟨_,rfl⟩
  rw[hpb]at qw6
  try rw[hpb]
  replace hpb:=Hd hpb
  generalize w5.alloc (.cells #[.slice anw5 B.vars.length cnw5,.slice arw5 B.rows.length crw5] 25)=w6 at *
  have hx0:=Hd x0
  have hx1:=Hd x1
  have hx2:=Hd x2
  have hx3:=Hd x3
  have hx4:=Hd x4
  have hx5:=Hd x5
  have hw6h:=Hd hw6
  have hT6:=Hd (hTh.out w6 hw6)
  have tA6:=Hd t46
  have tB6:=Hd tw6
  have qa6:=Hd q46
  have qb6:=Hd qw6
  have hE6:=Hd (fun V (h:Below w6.heap.size w6 V)=>hEh.out V (hw6h.out.trans (h.mono hw6h.out.size)))
  have cA:=Hd (refMay_any 1048576 (by omega) w6 _ A hT6.out.tabA (by omega) (by omega))
  have cB:=Hd (fun V (h:Below w6.heap.size w6 V)=>refMay_any 1048576 (by omega) V _ B (hT6.out.stay h).tabB (by omega) (by omega))
  have gA:=Hd (fun V (h:Below w6.heap.size w6 V)=>checkT_any 1048576 (by omega) V (hE6.out V h).env _ A (tA6.out.stay h) (by omega) (by omega))
  have gB:=Hd (fun V (h:Below w6.heap.size w6 V)=>checkT_any 1048576 (by omega) V (hE6.out V h).env _ B (tB6.out.stay h) (by omega) (by omega))
  obtain⟨mA,hmA⟩:∃m,mayT A=m:=⟨_,rfl⟩
  obtain⟨mB,hmB⟩:∃m,mayT B=m:=⟨_,rfl⟩
  obtain⟨s,hs⟩:∃s,decide (lang=1)=s:=⟨_,rfl⟩
  rw[hmA]at cA gA
  rw[hmB]at cB gB
  replace hmA:=Hd hmA
  replace hmB:=Hd hmB
  replace hs:=Hd hs
  have hlowx:Hid (w.heap.size<w6.heap.size):=Hd (by have:=cell_lowT x0;omega)
  clear hw6 t46 tw6 q46 qw6
  go_wp2_with fail
  refine cA.out.mono ?_
  rintro e w7 ⟨rfl,hb67⟩
  replace x0:=sB hb67 x0
  replace x1:=sB hb67 x1
  replace x2:=sB hb67 x2
  replace x3:=sB hb67 x3
  replace x4:=sB hb67 x4
  replace x5:=sB hb67 x5
  have cB7:=Hd (cB.out w7 hb67)
  replace hb67:=Hd hb67
  clear cA cB
  go_wp2_with fail
  refine cB7.out.mono ?_
  rintro e w8 ⟨rfl,hb78⟩
  replace x0:=sB hb78 x0
  replace x1:=sB hb78 x1
  replace x2:=sB hb78 x2
  replace x3:=sB hb78 x3
  replace x4:=sB hb78 x4
  replace x5:=sB hb78 x5
  have hb68:=Hd (hb67.out.trans (hb78.mono hb67.out.size))
  clear hb67 hb78 cB7
  go_upto_region 7 with fail
  go_cut [35] (fun v wx=>v=.bool false∧Hid (Below w8.heap.size w8 wx))
  case first=>
   as_aux_lemma=>
    have d0:=sB hb68.out (qa6.out.cell 0 rfl)
    have d1:=sB hb68.out (qa6.out.cell 1 rfl)
    have d2:=sB hb68.out (qb6.out.cell 0 rfl)
    have d3:=sB hb68.out (qb6.out.cell 1 rfl)
    have gA8:=Hd (gA.out w8 hb68.out)
    clear x0 x1 x2 x3 x4 x5
    go_wp2_with fail
    refine gA8.out.mono ?_
    rintro e w9 ⟨rfl,hb89⟩
    replace d2:=sB hb89 d2
    replace d3:=sB hb89 d3
    have gB9:=Hd (gB.out w9 (hb68.out.trans (hb89.mono hb68.out.size)))
    replace hb89:=Hd hb89
    clear gA8 d0 d1
    cases mA
    all_goals
     go_wp2_with fail
     refine gB9.out.mono ?_
     rintro e wa ⟨rfl,hb9a⟩
     have hbf:=Hd (hb89.out.trans (hb9a.mono hb89.out.size))
     clear hb9a gB9 d2 d3
     cases mB
     all_goals
      go_wp2_with fail
      go_meet
      exact⟨rfl,hbf⟩
  obtain⟨w10,rfl⟩:∃z:World,z=wc:=⟨_,rfl⟩
  obtain⟨rfl,hb810⟩:=hcut
  have hb610:=hb68.out.trans (hb810.out.mono hb68.out.size)
  clear gA gB hb68 hb810 x0 x1 x2 x3 x4 x5
  go_upto_if 36 with(fail)
  have hal11:Below w10.heap.size w10 (w10.alloc (.cells #[.slice none 0 0,.slice none 0 0,.slice none 0 0,.slice none 0 0,.slice none 0 0,.slice none 0 0,.slice none 0 0,.slice none 0 0,.slice none 0 0,.slice none 0 0,.slice none 0 0,.slice none 0 0] 46)):=(Below.refl _ _).alloc (Nat.le_refl _) _
  have qw11:=Blk.new w10 #[.slice none 0 0,.slice none 0 0,.slice none 0 0,.slice none 0 0,.slice none 0 0,.slice none 0 0,.slice none 0 0,.slice none 0 0,.slice none 0 0,.slice none 0 0,.slice none 0 0,.slice none 0 0] 46
  have bw11:=hb610.trans (hal11.mono hb610.size)
  obtain⟨pw,hpw⟩:∃p,w10.heap.size=p:=⟨_,rfl⟩
  have hlow:Hid (w6.heap.size≤pw):=Hd (by rw[←hpw];exact hb610.size)
  rw[hpw]at qw11
  try rw[hpw]
  replace hpw:=Hd hpw
  clear hal11 hb610
  generalize w10.alloc (.cells #[.slice none 0 0,.slice none 0 0,.slice none 0 0,.slice none 0 0,.slice none 0 0,.slice none 0 0,.slice none 0 0,.slice none 0 0,.slice none 0 0,.slice none 0 0,.slice none 0 0,.slice none 0 0] 46)=w11 at *
  replace qw11:=Hd qw11
  replace bw11:=Hd bw11
  go_cut [] (fun wx=>Hid (WantA w6 wx pw 1048576 (canonZ s A) (distZ A) (projZ A X)))
  case first =>
   as_aux_lemma=>
    cases mA with
    |false=>
     have hn:¬mayT A=true:=by rw[hmA.out];decide
     have e0:canonZ s A=⟨[],[]⟩:=by unfold canonZ;rw[if_neg hn]
     have e1:distZ A=⟨[],[]⟩:=by unfold distZ;rw[if_neg hn]
     have e2:projZ A X=⟨[],[]⟩:=by unfold projZ;rw[if_neg (fun h=>hn h.1)]
     have hfin:Hid (WantA w6 w11 pw 1048576 (canonZ s A) (distZ A) (projZ A X)):=Hd ⟨_,_,_,_,_,_,qw11.out,bw11.out,by rw[e0];exact Tk.nil _ _ _ _,by rw[e1];exact Tk.nil _ _ _ _,by rw[e2];exact Tk.nil _ _ _ _⟩
     clear e0 e1 e2 hn
     go_wp2_with fail
     go_meet
     exact hfin
    | true =>
     have e0:=Hd (show canonT s A=canonZ s A by unfold canonZ;rw[if_pos hmA.out])
     have e1:=Hd (show distT A=distZ A by unfold distZ;rw[if_pos hmA.out])
     replace qw11:=qw11.out
     replace bw11:=bw11.out
     have hTb:=Hd (fun V (h:Below w6.heap.size w6 V)=>(hT6.out.stay h).tabA)
     have cC:=Hd (rCanon_any 1048576 (by omega) lang w11 _ A (hTb.out _ bw11) (by omega) (by omega))
     have cD:=Hd (fun V (h:Below w6.heap.size w6 V)=>rDist_any 1048576 (by omega) w6 V h _ A hT6.out.tabA hmA.out iA.out (by omega))
     rw[hs.out,e0.out]at cC
     rw[e1.out]at cD
     have x0:=sB bw11 hx0.out
     have x1:=sB bw11 hx1.out
     have x2:=sB bw11 hx2.out
     have x3:=sB bw11 hx3.out
     have x4:=sB bw11 hx4.out
     have x5:=sB bw11 hx5.out
     go_wp2_with fail
     refine(cC.out).mono ?_
     rintro e v12 ⟨v,rfl,hR⟩
     obtain⟨hb,⟨a0,n0,c0,a1,n1,c1,hv⟩,hn⟩:=res_o (w0:=w6) hR qw11.lt
     subst hv
     have q:=blk_stay qw11 hb
     have b0:=bw11.trans (hb.mono bw11.size)
     have x0:=sB b0 hx0.out
     have x1:=sB b0 hx1.out
     have x2:=sB b0 hx2.out
     have x3:=sB b0 hx3.out
     have x4:=sB b0 hx4.out
     have x5:=sB b0 hx5.out
     have f:=q.free
     have z0:=q.cell 0 rfl
     have z1:=q.cell 1 rfl
     have oN:=Hd (((Out.refl (fun b=>b=pw) v12).setCell ⟨pw,0,none⟩ rfl (.slice a0 n0 c0)).setCell ⟨pw,1,none⟩ rfl (.slice a1 n1 c1))
     have qN:Hid (Blk ((v12.setCell ⟨pw,0,none⟩ (.slice a0 n0 c0)).setCell ⟨pw,1,none⟩ (.slice a1 n1 c1)) pw #[.slice a0 n0 c0,.slice a1 n1 c1,.slice none 0 0,.slice none 0 0,.slice none 0 0,.slice none 0 0,.slice none 0 0,.slice none 0 0,.slice none 0 0,.slice none 0 0,.slice none 0 0,.slice none 0 0] 46):=Hd ((q.set 0 _).set 1 _)
     have bN:=Hd ((b0.setCell (p:=⟨pw,0,none⟩) hlow.out (.slice a0 n0 c0)).setCell (p:=⟨pw,1,none⟩) hlow.out (.slice a1 n1 c1))
     have oA:=Hd ((Out.ofBelow (S:=fun b=>b=pw) hb).trans oN.out (fun _ h=>h))
     replace hn:=Hd hn
     clear hb q b0 qw11 bw11 hR
     go_upto_region 12 with fail
     clear x0 x1 x2 x3 x4 x5 f z0 z1
     generalize (v12.setCell ⟨pw,0,none⟩ (.slice a0 n0 c0)).setCell ⟨pw,1,none⟩ (.slice a1 n1 c1)=w12 at *
     try replace hk0:=Hd (hk0.out.next oA.out)
     try replace hk2:=Hd (hk2.out.next oA.out)
     try replace hk4:=Hd (hk4.out.next oA.out)
     try replace hk6:=Hd (hk6.out.next oA.out)
     try replace hk8:=Hd (hk8.out.next oA.out)
     have hk0:=Hd (hn.out.next oN.out)
     have qw12:=qN.out
     have bw12:=bN.out
     clear oN oA hn qN bN
     have x0:=sB bw12 hx0.out
     have x1:=sB bw12 hx1.out
     have x2:=sB bw12 hx2.out
     have x3:=sB bw12 hx3.out
     have x4:=sB bw12 hx4.out
     have x5:=sB bw12 hx5.out
     have cD2:=Hd (cD.out _ bw12)
     clear cC cD
     go_wp2_with fail
     refine(cD2.out).mono ?_
     rintro e v13 ⟨v,rfl,hR⟩
     obtain⟨hb,⟨a2,n2,c2,a3,n3,c3,hv⟩,hn⟩:=res_s hR qw12.lt
     subst hv
     have q:=blk_stay qw12 hb
     have b0:=bw12.trans (hb.mono bw12.size)
     have x0:=sB b0 hx0.out
     have x1:=sB b0 hx1.out
     have x2:=sB b0 hx2.out
     have x3:=sB b0 hx3.out
     have x4:=sB b0 hx4.out
     have x5:=sB b0 hx5.out
     have f:=q.free
     have z0:=q.cell 2 rfl
     have z1:=q.cell 3 rfl
     have oN:=Hd (((Out.refl (fun b=>b=pw) v13).setCell ⟨pw,2,none⟩ rfl (.slice a2 n2 c2)).setCell ⟨pw,3,none⟩ rfl (.slice a3 n3 c3))
     have qN:Hid (Blk ((v13.setCell ⟨pw,2,none⟩ (.slice a2 n2 c2)).setCell ⟨pw,3,none⟩ (.slice a3 n3 c3)) pw #[.slice a0 n0 c0,.slice a1 n1 c1,.slice a2 n2 c2,.slice a3 n3 c3,.slice none 0 0,.slice none 0 0,.slice none 0 0,.slice none 0 0,.slice none 0 0,.slice none 0 0,.slice none 0 0,.slice none 0 0] 46):=Hd ((q.set 2 _).set 3 _)
     have bN:=Hd ((b0.setCell (p:=⟨pw,2,none⟩) hlow.out (.slice a2 n2 c2)).setCell (p:=⟨pw,3,none⟩) hlow.out (.slice a3 n3 c3))
     have oA:=Hd ((Out.ofBelow (S:=fun b=>b=pw) hb).trans oN.out (fun _ h=>h))
     replace hn:=Hd hn
     clear hb q b0 qw12 bw12 hR
     go_upto_region 13 with fail
     clear x0 x1 x2 x3 x4 x5 f z0 z1
     generalize (v13.setCell ⟨pw,2,none⟩ (.slice a2 n2 c2)).setCell ⟨pw,3,none⟩ (.slice a3 n3 c3)=w13 at *
     try replace hk0:=Hd (hk0.out.next oA.out)
     try replace hk2:=Hd (hk2.out.next oA.out)
     try replace hk4:=Hd (hk4.out.next oA.out)
     try replace hk6:=Hd (hk6.out.next oA.out)
     try replace hk8:=Hd (hk8.out.next oA.out)
     have hk2:=Hd (hn.out.next oN.out)
     have qw13:=qN.out
     have bw13:=bN.out
     clear oN oA hn qN bN
     have x0:=sB bw13 hx0.out
     have x1:=sB bw13 hx1.out
     have x2:=sB bw13 hx2.out
     have x3:=sB bw13 hx3.out
     have x4:=sB bw13 hx4.out
     have x5:=sB bw13 hx5.out
     clear cD2
     replace qw13:=Hd qw13
     obtain⟨nb,hnb⟩:∃b,namesB X=b:=⟨_,rfl⟩
     have cU:=Hd (unlike_any w13 _ X (hT6.out.stay bw13).xs hXl)
     replace bw13:=Hd bw13
     replace hnb:=Hd hnb
     go_cut [55] (fun v wx=>v=.bool nb∧Hid (Below w13.heap.size w13 wx))
     case first=>
      as_aux_lemma=>
       by_cases h64:X.length≤64
       ·have h64i:(X.length:Int)≤64:=by omega
        have hnb2:Hid (unlikeB X=nb):=Hd (by rw[←hnb.out];unfold namesB unlikeB;rw[decide_eq_true h64];rfl)
        rw[hnb2.out]at cU
        go_wp2_with fail
        refine cU.out.mono ?_
        rintro e wu ⟨rfl,hbu⟩
        replace hbu:=Hd hbu
        go_wp2_with fail
        go_meet
        exact⟨rfl,hbu⟩
       ·have h64i:¬(X.length:Int)≤64:=by omega
        have hnb2:Hid (false=nb):=Hd (by rw[←hnb.out];unfold namesB;rw[decide_eq_false h64];rfl)
        go_wp2_with fail
        go_meet
        exact⟨by rw[hnb2.out],Hd (Below.refl _ _)⟩
     obtain⟨w14,rfl⟩:∃z:World,z=wc:=⟨_,rfl⟩
     obtain⟨rfl,hbu⟩:=hcut
     have qw14:=blk_stay qw13.out hbu.out
     have bw14:=bw13.out.trans (hbu.out.mono bw13.out.size)
     have oB:=Hd (Out.ofBelow (S:=fun b=>b=pw) hbu.out)
     replace hk0:=Hd (hk0.out.next oB.out)
     replace hk2:=Hd (hk2.out.next oB.out)
     clear qw13 bw13 hbu oB cU x0 x1 x2 x3 x4 x5
     have x0:=sB bw14 hx0.out
     have x1:=sB bw14 hx1.out
     have x2:=sB bw14 hx2.out
     have x3:=sB bw14 hx3.out
     have x4:=sB bw14 hx4.out
     have x5:=sB bw14 hx5.out
     cases nb with
     | false =>
      have hfin:Hid (WantA w6 w14 pw 1048576 (canonZ s A) (distZ A) (projZ A X)):=Hd ⟨_,_,_,_,_,_,qw14,bw14,hk0.out,hk2.out,by
       rw[show projZ A X=⟨[],[]⟩ by unfold projZ;rw[if_neg (fun h=>by have h2:=h.2;rw[hnb.out]at h2;cases h2)]]
       exact Tk.nil _ _ _ _⟩
      clear qw14 bw14
      go_wp2_with fail
      go_meet
      exact hfin
     |true=>
      have e2:=Hd (show projT A X=projZ A X by unfold projZ;rw[if_pos ⟨hmA.out,hnb.out⟩])
      have h64:=Hd (names_parts hnb.out).1
      have cP:=Hd (rProj_any 1048576 (by omega) w6 w14 bw14 _ _ A X hT6.out.tabA (hT6.out.stay bw14).xs hmA.out (by omega) (by have:=h64.out;omega))
      go_wp2_with fail
      refine(cP.out).mono ?_
      rintro e v15 ⟨v,rfl,hR⟩
      obtain⟨hb,⟨a4,n4,c4,a5,n5,c5,hv⟩,hn⟩:=res_p hT6.out.xs hR qw14.lt
      subst hv
      have q:=blk_stay qw14 hb
      have b0:=bw14.trans (hb.mono bw14.size)
      have x0:=sB b0 hx0.out
      have x1:=sB b0 hx1.out
      have x2:=sB b0 hx2.out
      have x3:=sB b0 hx3.out
      have x4:=sB b0 hx4.out
      have x5:=sB b0 hx5.out
      have f:=q.free
      have z0:=q.cell 4 rfl
      have z1:=q.cell 5 rfl
      have oN:=Hd (((Out.refl (fun b=>b=pw) v15).setCell ⟨pw,4,none⟩ rfl (.slice a4 n4 c4)).setCell ⟨pw,5,none⟩ rfl (.slice a5 n5 c5))
      have qN:Hid (Blk ((v15.setCell ⟨pw,4,none⟩ (.slice a4 n4 c4)).setCell ⟨pw,5,none⟩ (.slice a5 n5 c5)) pw #[.slice a0 n0 c0,.slice a1 n1 c1,.slice a2 n2 c2,.slice a3 n3 c3,.slice a4 n4 c4,.slice a5 n5 c5,.slice none 0 0,.slice none 0 0,.slice none 0 0,.slice none 0 0,.slice none 0 0,.slice none 0 0] 46):=Hd ((q.set 4 _).set 5 _)
      have bN:=Hd ((b0.setCell (p:=⟨pw,4,none⟩) hlow.out (.slice a4 n4 c4)).setCell (p:=⟨pw,5,none⟩) hlow.out (.slice a5 n5 c5))
      have oA:=Hd ((Out.ofBelow (S:=fun b=>b=pw) hb).trans oN.out (fun _ h=>h))
      replace hn:=Hd hn
      clear hb q b0 qw14 bw14 hR
      go_upto_region 15 with fail
      clear x0 x1 x2 x3 x4 x5 f z0 z1
      generalize (v15.setCell ⟨pw,4,none⟩ (.slice a4 n4 c4)).setCell ⟨pw,5,none⟩ (.slice a5 n5 c5)=w15 at *
      try replace hk0:=Hd (hk0.out.next oA.out)
      try replace hk2:=Hd (hk2.out.next oA.out)
      try replace hk4:=Hd (hk4.out.next oA.out)
      try replace hk6:=Hd (hk6.out.next oA.out)
      try replace hk8:=Hd (hk8.out.next oA.out)
      have hk4:=Hd (hn.out.next oN.out)
      have qw15:=qN.out
      have bw15:=bN.out
      clear oN oA hn qN bN
      have x0:=sB bw15 hx0.out
      have x1:=sB bw15 hx1.out
      have x2:=sB bw15 hx2.out
      have x3:=sB bw15 hx3.out
      have x4:=sB bw15 hx4.out
      have x5:=sB bw15 hx5.out
      rw[e2.out]at hk4
      have hfin:Hid (WantA w6 w15 pw 1048576 (canonZ s A) (distZ A) (projZ A X)):=Hd ⟨_,_,_,_,_,_,qw15,bw15,hk0.out,hk2.out,hk4.out⟩
      clear qw15 bw15 x0 x1 x2 x3 x4 x5
      go_meet
      exact hfin
  obtain⟨w15,rfl⟩:∃z:World,z=wc:=⟨_,rfl⟩
  obtain⟨u0,u1,u2,u3,u4,u5,qw15,bw15,hk0,hk2,hk4⟩:=hcut.out
  replace hk0:=Hd hk0
  replace hk2:=Hd hk2
  replace hk4:=Hd hk4
  replace qw15:=Hd qw15
  replace bw15:=Hd bw15
  clear hcut qw11 bw11
  go_upto_region 15 with fail
  go_cut [65] (fun v wx=>v=.bool (mA&&mB)∧w15=wx)
  case first=>
   cases mA
   all_goals
    go_wp2_with fail
    go_meet
    exact⟨rfl,rfl⟩
  obtain⟨rfl,rfl⟩:=hcut
  obtain⟨mm,hmm⟩:∃m,(mA&&mB)=m:=⟨_,rfl⟩
  rw[hmm]
  replace hmm:=Hd hmm
  go_upto_if 65 with(fail)
  go_cut [] (fun wx=>Hid (WantR w6 wx pw 1048576 (tabK s A B X)))
  case first=>
   as_aux_lemma=>
    cases mm with
    | false =>
     have hn:¬(mayT A=true∧mayT B=true):=fun h=>by
      have h1:=hmm.out
      rw[←hmA.out,←hmB.out,h.1,h.2]at h1
      cases h1
     have e3:tabK s A B X 3=⟨[],[]⟩:=by show joinZ A B=_;unfold joinZ;rw[if_neg hn]
     have e4:tabK s A B X 4=⟨[],[]⟩:=by show unionZ A B=_;unfold unionZ;rw[if_neg hn]
     have e5:tabK s A B X 5=⟨[],[]⟩:=by show minusZ A B=_;unfold minusZ;rw[if_neg hn]
     have hfin:Hid (WantR w6 w15 pw 1048576 (tabK s A B X)):=Hd (wantR_of qw15.out bw15.out hk0.out hk2.out hk4.out (by rw[e3];exact Tk.nil _ _ _ _) (by rw[e4];exact Tk.nil _ _ _ _) (by rw[e5];exact Tk.nil _ _ _ _))
     clear e3 e4 e5 hn
     go_wp2_with fail
     go_meet
     exact hfin
    | true =>
     have hboth:mayT A=true∧mayT B=true:=by
      have h1:=hmm.out
      rw[Bool.and_eq_true]at h1
      exact⟨hmA.out.trans h1.1,hmB.out.trans h1.2⟩
     have e3:=Hd (show joinT A B=joinZ A B by unfold joinZ;rw[if_pos hboth])
     have e4:=Hd (show unionT A B=unionZ A B by unfold unionZ;rw[if_pos hboth])
     have e5:=Hd (show someT A B false true=minusZ A B by unfold minusZ;rw[if_pos hboth,some_minus])
     have cJ:=Hd (fun V (h:Below w6.heap.size w6 V)=>rJoin_any 1048576 (by omega) w6 V h _ _ A B hT6.out.tabA hT6.out.tabB hboth.1 hboth.2 (by omega) (by omega) (by omega))
     have cU:=Hd (fun V (h:Below w6.heap.size w6 V)=>rUnion_any 1048576 (by omega) w6 V h _ _ A B hT6.out.tabA hT6.out.tabB hboth.1 hboth.2 (by omega) (by omega) (by omega))
     have cM:=Hd (fun V (h:Below w6.heap.size w6 V)=>rMinus_any 1048576 (by omega) w6 V h _ _ A B hT6.out.tabA hT6.out.tabB hboth.1 hboth.2 (by omega) (by omega) (by omega))
     rw[e3.out]at cJ
     rw[e4.out]at cU
     rw[e5.out]at cM
     replace qw15:=qw15.out
     replace bw15:=bw15.out
     replace hboth:=Hd hboth
     have cJ2:=Hd (cJ.out _ bw15)
     have x0:=sB bw15 hx0.out
     have x1:=sB bw15 hx1.out
     have x2:=sB bw15 hx2.out
     have x3:=sB bw15 hx3.out
     have x4:=sB bw15 hx4.out
     have x5:=sB bw15 hx5.out
     go_wp2_with fail
     refine(cJ2.out).mono ?_
     rintro e v16 ⟨v,rfl,hR⟩
     obtain⟨hb,⟨a6,n6,c6,a7,n7,c7,hv⟩,hn⟩:=res_s hR qw15.lt
     subst hv
     have q:=blk_stay qw15 hb
     have b0:=bw15.trans (hb.mono bw15.size)
     have x0:=sB b0 hx0.out
     have x1:=sB b0 hx1.out
     have x2:=sB b0 hx2.out
     have x3:=sB b0 hx3.out
     have x4:=sB b0 hx4.out
     have x5:=sB b0 hx5.out
     have f:=q.free
     have z0:=q.cell 6 rfl
     have z1:=q.cell 7 rfl
     have oN:=Hd (((Out.refl (fun b=>b=pw) v16).setCell ⟨pw,6,none⟩ rfl (.slice a6 n6 c6)).setCell ⟨pw,7,none⟩ rfl (.slice a7 n7 c7))
     have qN:Hid (Blk ((v16.setCell ⟨pw,6,none⟩ (.slice a6 n6 c6)).setCell ⟨pw,7,none⟩ (.slice a7 n7 c7)) pw #[u0,u1,u2,u3,u4,u5,.slice a6 n6 c6,.slice a7 n7 c7,.slice none 0 0,.slice none 0 0,.slice none 0 0,.slice none 0 0] 46):=Hd ((q.set 6 _).set 7 _)
     have bN:=Hd ((b0.setCell (p:=⟨pw,6,none⟩) hlow.out (.slice a6 n6 c6)).setCell (p:=⟨pw,7,none⟩) hlow.out (.slice a7 n7 c7))
     have oA:=Hd ((Out.ofBelow (S:=fun b=>b=pw) hb).trans oN.out (fun _ h=>h))
     replace hn:=Hd hn
     clear hb q b0 qw15 bw15 hR
     go_upto_region 17 with fail
     clear x0 x1 x2 x3 x4 x5 f z0 z1
     generalize (v16.setCell ⟨pw,6,none⟩ (.slice a6 n6 c6)).setCell ⟨pw,7,none⟩ (.slice a7 n7 c7)=w16 at *
     try replace hk0:=Hd (hk0.out.next oA.out)
     try replace hk2:=Hd (hk2.out.next oA.out)
     try replace hk4:=Hd (hk4.out.next oA.out)
     try replace hk6:=Hd (hk6.out.next oA.out)
     try replace hk8:=Hd (hk8.out.next oA.out)
     have hk6:=Hd (hn.out.next oN.out)
     have qw16:=qN.out
     have bw16:=bN.out
     clear oN oA hn qN bN
     have x0:=sB bw16 hx0.out
     have x1:=sB bw16 hx1.out
     have x2:=sB bw16 hx2.out
     have x3:=sB bw16 hx3.out
     have x4:=sB bw16 hx4.out
     have x5:=sB bw16 hx5.out
     have cU2:=Hd (cU.out _ bw16)
     clear cJ cJ2 cU
     go_wp2_with fail
     refine(cU2.out).mono ?_
     rintro e v17 ⟨v,rfl,hR⟩
     obtain⟨hb,⟨a8,n8,c8,a9,n9,c9,hv⟩,hn⟩:=res_s hR qw16.lt
     subst hv
     have q:=blk_stay qw16 hb
     have b0:=bw16.trans (hb.mono bw16.size)
     have x0:=sB b0 hx0.out
     have x1:=sB b0 hx1.out
     have x2:=sB b0 hx2.out
     have x3:=sB b0 hx3.out
     have x4:=sB b0 hx4.out
     have x5:=sB b0 hx5.out
     have f:=q.free
     have z0:=q.cell 8 rfl
     have z1:=q.cell 9 rfl
     have oN:=Hd (((Out.refl (fun b=>b=pw) v17).setCell ⟨pw,8,none⟩ rfl (.slice a8 n8 c8)).setCell ⟨pw,9,none⟩ rfl (.slice a9 n9 c9))
     have qN:Hid (Blk ((v17.setCell ⟨pw,8,none⟩ (.slice a8 n8 c8)).setCell ⟨pw,9,none⟩ (.slice a9 n9 c9)) pw #[u0,u1,u2,u3,u4,u5,.slice a6 n6 c6,.slice a7 n7 c7,.slice a8 n8 c8,.slice a9 n9 c9,.slice none 0 0,.slice none 0 0] 46):=Hd ((q.set 8 _).set 9 _)
     have bN:=Hd ((b0.setCell (p:=⟨pw,8,none⟩) hlow.out (.slice a8 n8 c8)).setCell (p:=⟨pw,9,none⟩) hlow.out (.slice a9 n9 c9))
     have oA:=Hd ((Out.ofBelow (S:=fun b=>b=pw) hb).trans oN.out (fun _ h=>h))
     replace hn:=Hd hn
     clear hb q b0 qw16 bw16 hR
     go_upto_region 18 with fail
     clear x0 x1 x2 x3 x4 x5 f z0 z1
     generalize (v17.setCell ⟨pw,8,none⟩ (.slice a8 n8 c8)).setCell ⟨pw,9,none⟩ (.slice a9 n9 c9)=w17 at *
     try replace hk0:=Hd (hk0.out.next oA.out)
     try replace hk2:=Hd (hk2.out.next oA.out)
     try replace hk4:=Hd (hk4.out.next oA.out)
     try replace hk6:=Hd (hk6.out.next oA.out)
     try replace hk8:=Hd (hk8.out.next oA.out)
     have hk8:=Hd (hn.out.next oN.out)
     have qw17:=qN.out
     have bw17:=bN.out
     clear oN oA hn qN bN
     have x0:=sB bw17 hx0.out
     have x1:=sB bw17 hx1.out
     have x2:=sB bw17 hx2.out
     have x3:=sB bw17 hx3.out
     have x4:=sB bw17 hx4.out
     have x5:=sB bw17 hx5.out
     have cM2:=Hd (cM.out _ bw17)
     clear cU2 cM
     go_wp2_with fail
     refine(cM2.out).mono ?_
     rintro e v18 ⟨v,rfl,hR⟩
     obtain⟨hb,⟨a10,n10,c10,a11,n11,c11,hv⟩,hn⟩:=res_s hR qw17.lt
     subst hv
     have q:=blk_stay qw17 hb
     have b0:=bw17.trans (hb.mono bw17.size)
     have x0:=sB b0 hx0.out
     have x1:=sB b0 hx1.out
     have x2:=sB b0 hx2.out
     have x3:=sB b0 hx3.out
     have x4:=sB b0 hx4.out
     have x5:=sB b0 hx5.out
     have f:=q.free
     have z0:=q.cell 10 rfl
     have z1:=q.cell 11 rfl
     have oN:=Hd (((Out.refl (fun b=>b=pw) v18).setCell ⟨pw,10,none⟩ rfl (.slice a10 n10 c10)).setCell ⟨pw,11,none⟩ rfl (.slice a11 n11 c11))
     have qN:Hid (Blk ((v18.setCell ⟨pw,10,none⟩ (.slice a10 n10 c10)).setCell ⟨pw,11,none⟩ (.slice a11 n11 c11)) pw #[u0,u1,u2,u3,u4,u5,.slice a6 n6 c6,.slice a7 n7 c7,.slice a8 n8 c8,.slice a9 n9 c9,.slice a10 n10 c10,.slice a11 n11 c11] 46):=Hd ((q.set 10 _).set 11 _)
     have bN:=Hd ((b0.setCell (p:=⟨pw,10,none⟩) hlow.out (.slice a10 n10 c10)).setCell (p:=⟨pw,11,none⟩) hlow.out (.slice a11 n11 c11))
     have oA:=Hd ((Out.ofBelow (S:=fun b=>b=pw) hb).trans oN.out (fun _ h=>h))
     replace hn:=Hd hn
     clear hb q b0 qw17 bw17 hR
     go_upto_region 19 with fail
     clear x0 x1 x2 x3 x4 x5 f z0 z1
     generalize (v18.setCell ⟨pw,10,none⟩ (.slice a10 n10 c10)).setCell ⟨pw,11,none⟩ (.slice a11 n11 c11)=w18 at *
     try replace hk0:=Hd (hk0.out.next oA.out)
     try replace hk2:=Hd (hk2.out.next oA.out)
     try replace hk4:=Hd (hk4.out.next oA.out)
     try replace hk6:=Hd (hk6.out.next oA.out)
     try replace hk8:=Hd (hk8.out.next oA.out)
     have hk10:=Hd (hn.out.next oN.out)
     have qw18:=qN.out
     have bw18:=bN.out
     clear oN oA hn qN bN
     have x0:=sB bw18 hx0.out
     have x1:=sB bw18 hx1.out
     have x2:=sB bw18 hx2.out
     have x3:=sB bw18 hx3.out
     have x4:=sB bw18 hx4.out
     have x5:=sB bw18 hx5.out
     have hfin:Hid (WantR w6 w18 pw 1048576 (tabK s A B X)):=Hd (wantR_of qw18 bw18 hk0.out hk2.out hk4.out hk6.out hk8.out hk10.out)
     clear qw18 bw18 x0 x1 x2 x3 x4 x5
     go_meet
     exact hfin
  obtain⟨wx,rfl⟩:∃wx:World,wx=wc:=⟨_,rfl⟩
  have hW:=hcut
  have hb6x:=hcut.out.bl
  have hbwx:=hw6h.out.trans (hb6x.mono hw6h.out.size)
  have d0:=sB hb6x (qa6.out.cell 0 rfl)
  have d1:=sB hb6x (qa6.out.cell 1 rfl)
  have d2:=sB hb6x (qb6.out.cell 0 rfl)
  have d3:=sB hb6x (qb6.out.cell 1 rfl)
  have x4:=sB hb6x hx4.out
  have x5:=sB hb6x hx5.out
  have hpr:A.rows.length * B.rows.length≤1048576:=Nat.le_trans (Nat.mul_le_mul l1 l2) (by decide)
  have hEx:=Hd (fun V (h:Below wx.heap.size wx V)=>hEh.out V (hbwx.trans (h.mono hbwx.size)))
  have tAx:=Hd (fun V (h:Below wx.heap.size wx V)=>tA6.out.stay (hb6x.trans (h.mono hb6x.size)))
  have tBx:=Hd (fun V (h:Below wx.heap.size wx V)=>tB6.out.stay (hb6x.trans (h.mono hb6x.size)))
  have tXx:=Hd (fun V (h:Below wx.heap.size wx V)=>(hT6.out.stay (hb6x.trans (h.mono hb6x.size))).xs)
  have k0:=Hd (fun V (h:Below wx.heap.size wx V)=>canon_any 1048576 (by omega) lang V (hEx.out V h) _ A (tAx.out V h) (by omega) (by omega))
  have k1:=Hd (fun V (h:Below wx.heap.size wx V)=>distinct_any 1048576 (by omega) V (hEx.out V h).env _ A (tAx.out V h) (by omega) (by omega) kA.out)
  have k2:=Hd (fun V (h:Below wx.heap.size wx V)=>project_any 1048576 (by omega) V (hEx.out V h).env _ _ A X (tAx.out V h) (tXx.out V h) (by omega) (by omega) (by omega) (by omega))
  have k3:=Hd (fun V (h:Below wx.heap.size wx V)=>join_any 1048576 (by omega) V (hEx.out V h).env _ _ A B (tAx.out V h) (tBx.out V h) (by omega) (by omega) (by omega) (by omega) (by omega) hpr)
  have k4:=Hd (fun V (h:Below wx.heap.size wx V)=>union_any 1048576 (by omega) V (hEx.out V h).env _ _ A B (tAx.out V h) (tBx.out V h) (by omega) (by omega) (by omega) (by omega) (by omega) (by omega))
  have k5:=Hd (fun V (h:Below wx.heap.size wx V)=>minus_any 1048576 (by omega) V (hEx.out V h).env _ _ A B (tAx.out V h) (tBx.out V h) (by omega) (by omega) (by omega) (by omega) (by omega))
  rw[hs.out]at k0
  have hbwxh:=Hd hbwx
  have hb6xh:=Hd hb6x
  clear hcut hbwx hb6x hpr qw15 bw15 hk0 hk2 hk4
  go_upto_region 19 with fail
  go_cut [8] (fun v wy=>∃pg,v=.pointer (some ⟨pg,0,none⟩)∧Hid (GotR (tabK s A B X) 1048576 wx wy pg))
  case first =>
   as_aux_lemma=>
    have hU:Below wx.heap.size wx wx.drew:=below_drewN (Below.refl _ _) 1
    have hc:=hU.size
    refine wp_region_held_drew (S:=fun V=>Below wx.heap.size wx V) (by kernel_rfl) hU (fun hS=>?_)
    generalize wx.drew=u at *
    refine tkS [0,1,2,4,6,7,8,10,11,13,14,16,17] ?_
    iterate 13
     refine tkC ?_ rfl (fun w' hS=>?_) hS ?_
     rotate_left
     ·
      have p0:=sB hS d0;have p1:=sB hS d1;have p2:=sB hS d2;have p3:=sB hS d3;have p4:=sB hS x4;have p5:=sB hS x5
      go_simp
      try with_reducible rfl
    clear d0 d1 d2 d3 x4 x5
    all_goals first
     |
      have hq':=hq
      clear hq'
      refine rdH 3 rfl (fun K hK=>?_)
     |
      refine wpAnyH_ready (rs:=[3,20]) (by kernel_rfl) (by simp) ?_
      refine AllReadyH.cons rfl (fun K hK=>?nd3) (AllReadyH.cons rfl (fun K hK=>?al3) AllReadyH.nil)
      case' al3=>
       clear hS
       go_simp
       go_wp2_with fail
       obtain⟨ua,pg,hua,hpg,hal,hq⟩:=alloc_step u #[.slice none 0 0,.slice none 0 0,.slice none 0 0,.slice none 0 0,.slice none 0 0,.slice none 0 0,.slice none 0 0,.slice none 0 0,.slice none 0 0,.slice none 0 0,.slice none 0 0,.slice none 0 0] 46
       rw[hua]
       have hpx:=hU.size
       have hc2:=Nat.le_trans hc hal.size
       replace hU:=hU.trans (hal.mono hU.size)
       refine hKo hK hU (fun hS=>?_)
       clear hK K
       skip
       rw[hpg]at hpx hc
       try rw[hpg]
       skip
       replace hc:=hc2
       clear hal hpg hc2 hua
       obtain⟨u,rfl⟩:∃u:World,u=ua:=⟨_,rfl⟩
       refine rdH 3 rfl (fun K hK=>?_)
    all_goals
     clear hS
     go_simp
     obtain⟨s0,hs0⟩:∃n,n=u.heap.size:=⟨_,rfl⟩
     refine(k0.out u hU).mono ?_
     rintro e V ⟨v,rfl,hO⟩
     obtain⟨vv,rv,rfl,hb,hown,hszs,hMR⟩:=id hO
     obtain⟨an0,cn0,hvn⟩:=own_form4x hown
     obtain⟨ar0,cr0,hvr⟩:=hMR.form
     subst hvn
     subst hvr
     have G0:=GotT.of hO
     obtain⟨e0,he0⟩:∃n,n=V.heap.size:=⟨_,rfl⟩
     rw[←hs0,←he0]at G0
     try (have hd0:pg<s0∨e0≤pg:=.inl (by rw[hs0];exact hq.lt))
     have m0:=hc
     have j0:=hb.size
     rw[←hs0]at m0 j0
     rw[←he0]at j0
     replace hU:=hU.trans (hb.mono hU.size)
     skip
     try replace hq:=blk_stay hq hb
     replace hc:=Nat.le_of_eq he0
     clear hb hown hszs hMR hO hs0 he0
     go_wp2_with fail
     refine hKo hK hU (fun hS=>?_)
     clear hK K
     obtain⟨u,rfl⟩:∃u:World,u=V:=⟨_,rfl⟩
    all_goals first
     |
      have hq':=hq
      clear hq'
      refine rdH 5 rfl (fun K hK=>?_)
     |
      refine wpAnyH_ready (rs:=[5,20]) (by kernel_rfl) (by simp) ?_
      refine AllReadyH.cons rfl (fun K hK=>?nd5) (AllReadyH.cons rfl (fun K hK=>?al5) AllReadyH.nil)
      case' al5=>
       clear hS
       go_simp
       go_wp2_with fail
       obtain⟨ua,pg,hua,hpg,hal,hq⟩:=alloc_step u #[.slice none 0 0,.slice none 0 0,.slice none 0 0,.slice none 0 0,.slice none 0 0,.slice none 0 0,.slice none 0 0,.slice none 0 0,.slice none 0 0,.slice none 0 0,.slice none 0 0,.slice none 0 0] 46
       rw[hua]
       have hpx:=hU.size
       have hc2:=Nat.le_trans hc hal.size
       replace hU:=hU.trans (hal.mono hU.size)
       refine hKo hK hU (fun hS=>?_)
       clear hK K
       replace G0:=G0.keep (fun b hS hlt=>hal.block b hlt)
       rw[hpg]at hpx hc
       try rw[hpg]
       have hd0:pg<s0∨e0≤pg:=.inr (by omega)
       replace hc:=hc2
       clear hal hpg hc2 hua
       obtain⟨u,rfl⟩:∃u:World,u=ua:=⟨_,rfl⟩
       refine rdH 5 rfl (fun K hK=>?_)
    all_goals
     clear hS
     go_simp
     obtain⟨s1,hs1⟩:∃n,n=u.heap.size:=⟨_,rfl⟩
     refine(k1.out u hU).mono ?_
     rintro e V ⟨v,rfl,hO⟩
     obtain⟨vv,rv,rfl,hb,hown,hszs,hMR⟩:=id hO
     obtain⟨an1,cn1,hvn⟩:=own_form4x hown
     obtain⟨ar1,cr1,hvr⟩:=hMR.form
     subst hvn
     subst hvr
     have G1:=GotT.of hO
     obtain⟨e1,he1⟩:∃n,n=V.heap.size:=⟨_,rfl⟩
     rw[←hs1,←he1]at G1
     try (have hd1:pg<s1∨e1≤pg:=.inl (by rw[hs1];exact hq.lt))
     have m1:=hc
     have j1:=hb.size
     rw[←hs1]at m1 j1
     rw[←he1]at j1
     replace hU:=hU.trans (hb.mono hU.size)
     replace G0:=G0.keep (fun b hS hlt=>hb.block b hlt)
     try replace hq:=blk_stay hq hb
     replace hc:=Nat.le_of_eq he1
     clear hb hown hszs hMR hO hs1 he1
     go_wp2_with fail
     refine hKo hK hU (fun hS=>?_)
     clear hK K
     obtain⟨u,rfl⟩:∃u:World,u=V:=⟨_,rfl⟩
    all_goals first
     |
      have hq':=hq
      clear hq'
      refine rdH 9 rfl (fun K hK=>?_)
     |
      refine wpAnyH_ready (rs:=[9,20]) (by kernel_rfl) (by simp) ?_
      refine AllReadyH.cons rfl (fun K hK=>?nd9) (AllReadyH.cons rfl (fun K hK=>?al9) AllReadyH.nil)
      case' al9=>
       clear hS
       go_simp
       go_wp2_with fail
       obtain⟨ua,pg,hua,hpg,hal,hq⟩:=alloc_step u #[.slice none 0 0,.slice none 0 0,.slice none 0 0,.slice none 0 0,.slice none 0 0,.slice none 0 0,.slice none 0 0,.slice none 0 0,.slice none 0 0,.slice none 0 0,.slice none 0 0,.slice none 0 0] 46
       rw[hua]
       have hpx:=hU.size
       have hc2:=Nat.le_trans hc hal.size
       replace hU:=hU.trans (hal.mono hU.size)
       refine hKo hK hU (fun hS=>?_)
       clear hK K
       replace G0:=G0.keep (fun b hS hlt=>hal.block b hlt);replace G1:=G1.keep (fun b hS hlt=>hal.block b hlt)
       rw[hpg]at hpx hc
       try rw[hpg]
       have hd0:pg<s0∨e0≤pg:=.inr (by omega);have hd1:pg<s1∨e1≤pg:=.inr (by omega)
       replace hc:=hc2
       clear hal hpg hc2 hua
       obtain⟨u,rfl⟩:∃u:World,u=ua:=⟨_,rfl⟩
       refine rdH 9 rfl (fun K hK=>?_)
    all_goals
     clear hS
     go_simp
     obtain⟨s2,hs2⟩:∃n,n=u.heap.size:=⟨_,rfl⟩
     refine(k2.out u hU).mono ?_
     rintro e V ⟨v,rfl,hO⟩
     obtain⟨vv,rv,rfl,hb,hown,hszs,hMR⟩:=id hO
     obtain⟨an2,cn2,hvn⟩:=own_form4x hown
     obtain⟨ar2,cr2,hvr⟩:=hMR.form
     subst hvn
     subst hvr
     have G2:=GotT.of hO
     obtain⟨e2,he2⟩:∃n,n=V.heap.size:=⟨_,rfl⟩
     rw[←hs2,←he2]at G2
     try (have hd2:pg<s2∨e2≤pg:=.inl (by rw[hs2];exact hq.lt))
     have m2:=hc
     have j2:=hb.size
     rw[←hs2]at m2 j2
     rw[←he2]at j2
     replace hU:=hU.trans (hb.mono hU.size)
     replace G0:=G0.keep (fun b hS hlt=>hb.block b hlt);replace G1:=G1.keep (fun b hS hlt=>hb.block b hlt)
     try replace hq:=blk_stay hq hb
     replace hc:=Nat.le_of_eq he2
     clear hb hown hszs hMR hO hs2 he2
     go_wp2_with fail
     refine hKo hK hU (fun hS=>?_)
     clear hK K
     obtain⟨u,rfl⟩:∃u:World,u=V:=⟨_,rfl⟩
    all_goals first
     |
      have hq':=hq
      clear hq'
      refine rdH 12 rfl (fun K hK=>?_)
     |
      refine wpAnyH_ready (rs:=[12,20]) (by kernel_rfl) (by simp) ?_
      refine AllReadyH.cons rfl (fun K hK=>?nd12) (AllReadyH.cons rfl (fun K hK=>?al12) AllReadyH.nil)
      case' al12=>
       clear hS
       go_simp
       go_wp2_with fail
       obtain⟨ua,pg,hua,hpg,hal,hq⟩:=alloc_step u #[.slice none 0 0,.slice none 0 0,.slice none 0 0,.slice none 0 0,.slice none 0 0,.slice none 0 0,.slice none 0 0,.slice none 0 0,.slice none 0 0,.slice none 0 0,.slice none 0 0,.slice none 0 0] 46
       rw[hua]
       have hpx:=hU.size
       have hc2:=Nat.le_trans hc hal.size
       replace hU:=hU.trans (hal.mono hU.size)
       refine hKo hK hU (fun hS=>?_)
       clear hK K
       replace G0:=G0.keep (fun b hS hlt=>hal.block b hlt);replace G1:=G1.keep (fun b hS hlt=>hal.block b hlt);replace G2:=G2.keep (fun b hS hlt=>hal.block b hlt)
       rw[hpg]at hpx hc
       try rw[hpg]
       have hd0:pg<s0∨e0≤pg:=.inr (by omega);have hd1:pg<s1∨e1≤pg:=.inr (by omega);have hd2:pg<s2∨e2≤pg:=.inr (by omega)
       replace hc:=hc2
       clear hal hpg hc2 hua
       obtain⟨u,rfl⟩:∃u:World,u=ua:=⟨_,rfl⟩
       refine rdH 12 rfl (fun K hK=>?_)
    all_goals
     clear hS
     go_simp
     obtain⟨s3,hs3⟩:∃n,n=u.heap.size:=⟨_,rfl⟩
     refine(k3.out u hU).mono ?_
     rintro e V ⟨v,rfl,hO⟩
     obtain⟨vv,rv,rfl,hb,hown,hszs,hMR⟩:=id hO
     obtain⟨an3,cn3,hvn⟩:=own_form4x hown
     obtain⟨ar3,cr3,hvr⟩:=hMR.form
     subst hvn
     subst hvr
     have G3:=GotT.of hO
     obtain⟨e3,he3⟩:∃n,n=V.heap.size:=⟨_,rfl⟩
     rw[←hs3,←he3]at G3
     try (have hd3:pg<s3∨e3≤pg:=.inl (by rw[hs3];exact hq.lt))
     have m3:=hc
     have j3:=hb.size
     rw[←hs3]at m3 j3
     rw[←he3]at j3
     replace hU:=hU.trans (hb.mono hU.size)
     replace G0:=G0.keep (fun b hS hlt=>hb.block b hlt);replace G1:=G1.keep (fun b hS hlt=>hb.block b hlt);replace G2:=G2.keep (fun b hS hlt=>hb.block b hlt)
     try replace hq:=blk_stay hq hb
     replace hc:=Nat.le_of_eq he3
     clear hb hown hszs hMR hO hs3 he3
     go_wp2_with fail
     refine hKo hK hU (fun hS=>?_)
     clear hK K
     obtain⟨u,rfl⟩:∃u:World,u=V:=⟨_,rfl⟩
    all_goals first
     |
      have hq':=hq
      clear hq'
      refine rdH 15 rfl (fun K hK=>?_)
     |
      refine wpAnyH_ready (rs:=[15,20]) (by kernel_rfl) (by simp) ?_
      refine AllReadyH.cons rfl (fun K hK=>?nd15) (AllReadyH.cons rfl (fun K hK=>?al15) AllReadyH.nil)
      case' al15=>
       clear hS
       go_simp
       go_wp2_with fail
       obtain⟨ua,pg,hua,hpg,hal,hq⟩:=alloc_step u #[.slice none 0 0,.slice none 0 0,.slice none 0 0,.slice none 0 0,.slice none 0 0,.slice none 0 0,.slice none 0 0,.slice none 0 0,.slice none 0 0,.slice none 0 0,.slice none 0 0,.slice none 0 0] 46
       rw[hua]
       have hpx:=hU.size
       have hc2:=Nat.le_trans hc hal.size
       replace hU:=hU.trans (hal.mono hU.size)
       refine hKo hK hU (fun hS=>?_)
       clear hK K
       replace G0:=G0.keep (fun b hS hlt=>hal.block b hlt);replace G1:=G1.keep (fun b hS hlt=>hal.block b hlt);replace G2:=G2.keep (fun b hS hlt=>hal.block b hlt);replace G3:=G3.keep (fun b hS hlt=>hal.block b hlt)
       rw[hpg]at hpx hc
       try rw[hpg]
       have hd0:pg<s0∨e0≤pg:=.inr (by omega);have hd1:pg<s1∨e1≤pg:=.inr (by omega);have hd2:pg<s2∨e2≤pg:=.inr (by omega);have hd3:pg<s3∨e3≤pg:=.inr (by omega)
       replace hc:=hc2
       clear hal hpg hc2 hua
       obtain⟨u,rfl⟩:∃u:World,u=ua:=⟨_,rfl⟩
       refine rdH 15 rfl (fun K hK=>?_)
    all_goals
     clear hS
     go_simp
     obtain⟨s4,hs4⟩:∃n,n=u.heap.size:=⟨_,rfl⟩
     refine(k4.out u hU).mono ?_
     rintro e V ⟨v,rfl,hO⟩
     obtain⟨vv,rv,rfl,hb,hown,hszs,hMR⟩:=id hO
     obtain⟨an4,cn4,hvn⟩:=own_form4x hown
     obtain⟨ar4,cr4,hvr⟩:=hMR.form
     subst hvn
     subst hvr
     have G4:=GotT.of hO
     obtain⟨e4,he4⟩:∃n,n=V.heap.size:=⟨_,rfl⟩
     rw[←hs4,←he4]at G4
     try (have hd4:pg<s4∨e4≤pg:=.inl (by rw[hs4];exact hq.lt))
     have m4:=hc
     have j4:=hb.size
     rw[←hs4]at m4 j4
     rw[←he4]at j4
     replace hU:=hU.trans (hb.mono hU.size)
     replace G0:=G0.keep (fun b hS hlt=>hb.block b hlt);replace G1:=G1.keep (fun b hS hlt=>hb.block b hlt);replace G2:=G2.keep (fun b hS hlt=>hb.block b hlt);replace G3:=G3.keep (fun b hS hlt=>hb.block b hlt)
     try replace hq:=blk_stay hq hb
     replace hc:=Nat.le_of_eq he4
     clear hb hown hszs hMR hO hs4 he4
     go_wp2_with fail
     refine hKo hK hU (fun hS=>?_)
     clear hK K
     obtain⟨u,rfl⟩:∃u:World,u=V:=⟨_,rfl⟩
    all_goals first
     |
      have hq':=hq
      clear hq'
      refine rdH 18 rfl (fun K hK=>?_)
     |
      refine wpAnyH_ready (rs:=[18,20]) (by kernel_rfl) (by simp) ?_
      refine AllReadyH.cons rfl (fun K hK=>?nd18) (AllReadyH.cons rfl (fun K hK=>?al18) AllReadyH.nil)
      case' al18=>
       clear hS
       go_simp
       go_wp2_with fail
       obtain⟨ua,pg,hua,hpg,hal,hq⟩:=alloc_step u #[.slice none 0 0,.slice none 0 0,.slice none 0 0,.slice none 0 0,.slice none 0 0,.slice none 0 0,.slice none 0 0,.slice none 0 0,.slice none 0 0,.slice none 0 0,.slice none 0 0,.slice none 0 0] 46
       rw[hua]
       have hpx:=hU.size
       have hc2:=Nat.le_trans hc hal.size
       replace hU:=hU.trans (hal.mono hU.size)
       refine hKo hK hU (fun hS=>?_)
       clear hK K
       replace G0:=G0.keep (fun b hS hlt=>hal.block b hlt);replace G1:=G1.keep (fun b hS hlt=>hal.block b hlt);replace G2:=G2.keep (fun b hS hlt=>hal.block b hlt);replace G3:=G3.keep (fun b hS hlt=>hal.block b hlt);replace G4:=G4.keep (fun b hS hlt=>hal.block b hlt)
       rw[hpg]at hpx hc
       try rw[hpg]
       have hd0:pg<s0∨e0≤pg:=.inr (by omega);have hd1:pg<s1∨e1≤pg:=.inr (by omega);have hd2:pg<s2∨e2≤pg:=.inr (by omega);have hd3:pg<s3∨e3≤pg:=.inr (by omega);have hd4:pg<s4∨e4≤pg:=.inr (by omega)
       replace hc:=hc2
       clear hal hpg hc2 hua
       obtain⟨u,rfl⟩:∃u:World,u=ua:=⟨_,rfl⟩
       refine rdH 18 rfl (fun K hK=>?_)
    all_goals
     clear hS
     go_simp
     obtain⟨s5,hs5⟩:∃n,n=u.heap.size:=⟨_,rfl⟩
     refine(k5.out u hU).mono ?_
     rintro e V ⟨v,rfl,hO⟩
     obtain⟨vv,rv,rfl,hb,hown,hszs,hMR⟩:=id hO
     obtain⟨an5,cn5,hvn⟩:=own_form4x hown
     obtain⟨ar5,cr5,hvr⟩:=hMR.form
     subst hvn
     subst hvr
     have G5:=GotT.of hO
     obtain⟨e5,he5⟩:∃n,n=V.heap.size:=⟨_,rfl⟩
     rw[←hs5,←he5]at G5
     try (have hd5:pg<s5∨e5≤pg:=.inl (by rw[hs5];exact hq.lt))
     have m5:=hc
     have j5:=hb.size
     rw[←hs5]at m5 j5
     rw[←he5]at j5
     replace hU:=hU.trans (hb.mono hU.size)
     replace G0:=G0.keep (fun b hS hlt=>hb.block b hlt);replace G1:=G1.keep (fun b hS hlt=>hb.block b hlt);replace G2:=G2.keep (fun b hS hlt=>hb.block b hlt);replace G3:=G3.keep (fun b hS hlt=>hb.block b hlt);replace G4:=G4.keep (fun b hS hlt=>hb.block b hlt)
     try replace hq:=blk_stay hq hb
     replace hc:=Nat.le_of_eq he5
     clear hb hown hszs hMR hO hs5 he5
     go_wp2_with fail
     refine hKo hK hU (fun hS=>?_)
     clear hK K
     obtain⟨u,rfl⟩:∃u:World,u=V:=⟨_,rfl⟩
    all_goals
     refine tkH 19 (.agg #[.slice an0 (canonZ s A).vars.length cn0,.slice ar0 (canonZ s A).rows.length cr0,.slice an1 (distZ A).vars.length cn1,.slice ar1 (distZ A).rows.length cr1,.slice an2 (projZ A X).vars.length cn2,.slice ar2 (projZ A X).rows.length cr2,.slice an3 (joinZ A B).vars.length cn3,.slice ar3 (joinZ A B).rows.length cr3,.slice an4 (unionZ A B).vars.length cn4,.slice ar4 (unionZ A B).rows.length cr4,.slice an5 (minusZ A B).vars.length cn5,.slice ar5 (minusZ A B).rows.length cr5]) rfl (fun w' hS=>exec_build 46 _ rfl _ _ w' (by kernel_rfl) (built_six an0 ar0 an1 ar1 an2 ar2 an3 ar3 an4 ar4 an5 ar5 _ _ _ _ _ _ _ _ _ _ _ _ _ _ _ _ _ _ _ _ _ _ _ _)) hS ?_
    all_goals first
     |
      have hq':=hq
      clear hq'
      refine rdH 21 rfl (fun K hK=>?_)
     |
      refine rdH 20 rfl (fun K hK=>?_)
      clear hS
      go_simp
      go_wp2_with fail
      obtain⟨ua,pg,hua,hpg,hal,hq⟩:=alloc_step u #[.slice none 0 0,.slice none 0 0,.slice none 0 0,.slice none 0 0,.slice none 0 0,.slice none 0 0,.slice none 0 0,.slice none 0 0,.slice none 0 0,.slice none 0 0,.slice none 0 0,.slice none 0 0] 46
      rw[hua]
      have hpx:=hU.size
      have hc2:=Nat.le_trans hc hal.size
      replace hU:=hU.trans (hal.mono hU.size)
      refine hKo hK hU (fun hS=>?_)
      clear hK K
      replace G0:=G0.keep (fun b hS hlt=>hal.block b hlt);replace G1:=G1.keep (fun b hS hlt=>hal.block b hlt);replace G2:=G2.keep (fun b hS hlt=>hal.block b hlt);replace G3:=G3.keep (fun b hS hlt=>hal.block b hlt);replace G4:=G4.keep (fun b hS hlt=>hal.block b hlt);replace G5:=G5.keep (fun b hS hlt=>hal.block b hlt)
      rw[hpg]at hpx hc
      try rw[hpg]
      have hd0:pg<s0∨e0≤pg:=.inr (by omega);have hd1:pg<s1∨e1≤pg:=.inr (by omega);have hd2:pg<s2∨e2≤pg:=.inr (by omega);have hd3:pg<s3∨e3≤pg:=.inr (by omega);have hd4:pg<s4∨e4≤pg:=.inr (by omega);have hd5:pg<s5∨e5≤pg:=.inr (by omega)
      replace hc:=hc2
      clear hal hpg hc2 hua
      obtain⟨u,rfl⟩:∃u:World,u=ua:=⟨_,rfl⟩
      refine rdH 21 rfl (fun K hK=>?_)
    all_goals
     clear hS
     rw[if_pos (by kernel_rfl)]
     refine wp_store_row 46 (.tmp 8) (.tmp 103) rfl pg #[.slice an0 (canonZ s A).vars.length cn0,.slice ar0 (canonZ s A).rows.length cr0,.slice an1 (distZ A).vars.length cn1,.slice ar1 (distZ A).rows.length cr1,.slice an2 (projZ A X).vars.length cn2,.slice ar2 (projZ A X).rows.length cr2,.slice an3 (joinZ A B).vars.length cn3,.slice ar3 (joinZ A B).rows.length cr3,.slice an4 (unionZ A B).vars.length cn4,.slice ar4 (unionZ A B).rows.length cr4,.slice an5 (minusZ A B).vars.length cn5,.slice ar5 (minusZ A B).rows.length cr5] rfl rfl 46 #[.slice none 0 0,.slice none 0 0,.slice none 0 0,.slice none 0 0,.slice none 0 0,.slice none 0 0,.slice none 0 0,.slice none 0 0,.slice none 0 0,.slice none 0 0,.slice none 0 0,.slice none 0 0] hq (by kernel_rfl) rfl (by kernel_rfl) ?_
     have hfin:Hid (GotR (tabK s A B X) 1048576 wx (World.setRow u pg #[.slice an0 (canonZ s A).vars.length cn0,.slice ar0 (canonZ s A).rows.length cr0,.slice an1 (distZ A).vars.length cn1,.slice ar1 (distZ A).rows.length cr1,.slice an2 (projZ A X).vars.length cn2,.slice ar2 (projZ A X).rows.length cr2,.slice an3 (joinZ A B).vars.length cn3,.slice ar3 (joinZ A B).rows.length cr3,.slice an4 (unionZ A B).vars.length cn4,.slice ar4 (unionZ A B).rows.length cr4,.slice an5 (minusZ A B).vars.length cn5,.slice ar5 (minusZ A B).rows.length cr5]) pg):=Hd (gotR_row hq hU hpx G0 G1 G2 G3 G4 G5 ⟨m0,j0,m1,j1,m2,j2,m3,j3,m4,j4,m5,j5,hc⟩ ⟨hd0,hd1,hd2,hd3,hd4,hd5⟩)
     have hbz:=below_rowT hU hpx #[.slice an0 (canonZ s A).vars.length cn0,.slice ar0 (canonZ s A).rows.length cr0,.slice an1 (distZ A).vars.length cn1,.slice ar1 (distZ A).rows.length cr1,.slice an2 (projZ A X).vars.length cn2,.slice ar2 (projZ A X).rows.length cr2,.slice an3 (joinZ A B).vars.length cn3,.slice ar3 (joinZ A B).rows.length cr3,.slice an4 (unionZ A B).vars.length cn4,.slice ar4 (unionZ A B).rows.length cr4,.slice an5 (minusZ A B).vars.length cn5,.slice ar5 (minusZ A B).rows.length cr5]
     generalize World.setRow u pg #[.slice an0 (canonZ s A).vars.length cn0,.slice ar0 (canonZ s A).rows.length cr0,.slice an1 (distZ A).vars.length cn1,.slice ar1 (distZ A).rows.length cr1,.slice an2 (projZ A X).vars.length cn2,.slice ar2 (projZ A X).rows.length cr2,.slice an3 (joinZ A B).vars.length cn3,.slice ar3 (joinZ A B).rows.length cr3,.slice an4 (unionZ A B).vars.length cn4,.slice ar4 (unionZ A B).rows.length cr4,.slice an5 (minusZ A B).vars.length cn5,.slice ar5 (minusZ A B).rows.length cr5]=wz at *
     refine hKo hK hbz (fun hS=>?_)
     clear hK K
     refine wpAnyH_done (by kernel_rfl) ?_ _
     clear hS hbz
     go_wp2_with fail
     go_meet
     exact⟨pg,rfl,hfin⟩
  have hsm:Hid (∀k,(tabK s A B X k).vars.length≤64∧(tabK s A B X k).rows.length≤3600∧∀r∈(tabK s A B X k).rows,r.length≤64):=Hd (fun k=>tab_small (tabK_may s A B X k) (tabK_len s X l1 l2 k))
  obtain⟨wy,rfl⟩:∃wy:World,wy=wc:=⟨_,rfl⟩
  obtain⟨pg,rfl,hGot⟩:=hcut
  obtain⟨sK,eK,hG⟩:=hGot.out
  replace hG:=Hd hG
  have hO0:Hid (Out (Sx sK eK 0) wy wy):=Hd (Out.refl _ _)
  clear hGot k0 k1 k2 k3 k4 k5 d0 d1 d2 d3 x4 x5 tAx tBx tXx
  go_wp2
  go_loopw [9] (fun i wr=>∃k:Nat,k≤6∧i=.int .i64 (k:Int)∧Hid (Out (Sx sK eK k) wy wr)) (fun i _=>6-(intOf i).toNat)
  case atStart=>exact⟨0,by omega,rfl,hO0⟩
  case round=>
   clear hO0
   obtain⟨k,hk,rfl,hO⟩:=hrel
   obtain⟨w9,rfl⟩:∃w9:World,w9=wr:=⟨_,rfl⟩
   have hB9:=hG.out.below hk hO.out
   by_cases hlt:k<6
   ·have hki:(k:Int)<6:=by omega
    have hk1:=Hd (show k+1≤6 from hlt)
    obtain⟨n,r,g0,g1,gt,hel⟩:=hG.out.look hlt hO.out
    obtain⟨x,y,z0,z1,hta⟩:=hW.out.pt w9 hB9 k hlt
    have hsk:=hG.out.ok k hlt
    have hpwl:=hW.out.lt
    have hgl:=hG.out.low
    obtain⟨t1,t2,t3⟩:=hsm.out k
    generalize tabK s A B X k=T at *
    have hn9:=gt.inS
    have hdr:Below w9.heap.size w9 w9.drew:=below_drewN (Below.refl _ _) 1
    have hS0:w9.drew.cell? ⟨pg,k * 2,none⟩=some n∧w9.drew.cell? ⟨pg,k * 2+1,none⟩=some r∧w9.drew.cell? ⟨pw,k * 2,none⟩=some x∧w9.drew.cell? ⟨pw,k * 2+1,none⟩=some y:=⟨sB hdr g0,sB hdr g1,sB hdr z0,sB hdr z1⟩
    have cE:=Hd (eqTab_same 1048576 (by omega) w9.drew _ _ T (gt.keep fun b hS hlt=>hdr.block b hlt).read (hta.stay hdr) (by omega) (by omega))
    replace hta:=Hd hta
    clear g0 g1 z0 z1
    go_upto_region 23 with fail
    refine wp_region_held_drew (S:=fun V=>V.cell? ⟨pg,k * 2,none⟩=some n∧V.cell? ⟨pg,k * 2+1,none⟩=some r∧V.cell? ⟨pw,k * 2,none⟩=some x∧V.cell? ⟨pw,k * 2+1,none⟩=some y) (by kernel_rfl) hS0 (fun hS=>?_)
    generalize w9.drew=V0 at *
    refine tkS [0,1,2,3,4,5] ?_
    iterate 6
     refine tkC ?_ rfl (fun w' hS=>?_) hS ?_
     rotate_left
     ·
      have z0:=hS.1;have z1:=hS.2.1;have z2:=hS.2.2.1;have z3:=hS.2.2.2
      go_simp
      try with_reducible rfl
    refine rdH 6 rfl (fun K hK=>?_)
    clear hS
    go_simp
    refine(cE.out).mono ?_
    rintro e w5 ⟨rfl,hb5⟩
    go_wp2_with fail
    refine hKo hK (⟨sB hb5 hS0.1,sB hb5 hS0.2.1,sB hb5 hS0.2.2.1,sB hb5 hS0.2.2.2⟩) (fun hS=>?_)
    clear hK K
    have hb95:=hdr.trans (hb5.mono hdr.size)
    have gt5:=gt.keep (W':=w5) fun b hS hlt=>hb95.block b hlt
    have cR:=Hd (overRows_any 1048576 (by omega) w5 r T.rows _ gt5.parted (fun b hb=>by have:=hb.1.2;have:=hb95.size;omega) (by omega) (fun r hr=>by have:=t3 r hr;omega))
    have hS5:w5.cell? ⟨pg,k * 2,none⟩=some n∧w5.cell? ⟨pg,k * 2+1,none⟩=some r∧w5.cell? ⟨pw,k * 2,none⟩=some x∧w5.cell? ⟨pw,k * 2+1,none⟩=some y:=⟨sB hb5 hS0.1,sB hb5 hS0.2.1,sB hb5 hS0.2.2.1,sB hb5 hS0.2.2.2⟩
    have hpgn:¬((sK k≤pg∧pg<eK k)∧n.ownBlock≠some pg):=fun h=>by have:=h.1;omega
    have hpwn:¬((sK k≤pw∧pw<eK k)∧n.ownBlock≠some pw):=fun h=>by have:=h.1;omega
    clear cE hb5 hS0
    refine tkS [7,8,9,10,11,12] ?_
    iterate 6
     refine tkC ?_ rfl (fun w' hS=>?_) hS ?_
     rotate_left
     ·
      have z0:=hS.1;have z1:=hS.2.1;have z2:=hS.2.2.1;have z3:=hS.2.2.2
      go_simp
      try with_reducible rfl
    refine rdH 13 rfl (fun K hK=>?_)
    clear hS
    go_simp
    refine(cR.out).mono ?_
    rintro e w6' ⟨rfl,ho6⟩
    go_wp2_with fail
    refine hKo hK (⟨out_cell ho6 hpgn hS5.1,out_cell ho6 hpgn hS5.2.1,out_cell ho6 hpwn hS5.2.2.1,out_cell ho6 hpwn hS5.2.2.2⟩) (fun hS=>?_)
    clear hK K
    obtain⟨Bn,hsh⟩:=gt5.names ho6
    have cT:=Hd (hyp.overT_any w6' Bn n T.vars.length hsh (by omega))
    have y0:=out_cell ho6 hpgn hS5.1
    replace ho6:=Hd ho6
    replace hb95:=Hd hb95
    replace hn9:=Hd hn9
    clear cR hS5 gt gt5 hsh
    refine tkS [14,15] ?_
    iterate 2
     refine tkC ?_ rfl (fun w' hS=>?_) hS ?_
     rotate_left
     ·
      skip
      go_simp
      try with_reducible rfl
    refine wpAnyH_done (by kernel_rfl) ?_ _
    clear hS
    go_wp2_with fail
    refine cT.out.mono ?_
    rintro e w7 ⟨rfl,hv7⟩
    have hOn:=Hd (sx_next hO.out hb95.out ho6.out hv7 hn9.out)
    clear hv7 cT y0 ho6 hb95
    go_wp2
    go_roundw
    case rel=>exact⟨k+1,hk1.out,by go_num,hOn⟩
    case measure=>have:=hk1.out;simp[intOf];omega
   ·have hki:¬(k:Int)<6:=by omega
    have hB69:=hb6xh.out.trans (hB9.mono hb6xh.out.size)
    have hTw:=hT6.out.stay hB69
    have e0:=sB hB69 (qa6.out.cell 0 rfl)
    have e1:=sB hB69 (qa6.out.cell 1 rfl)
    have e2:=sB hB69 (qb6.out.cell 0 rfl)
    have e3:=sB hB69 (qb6.out.cell 1 rfl)
    have y0:=sB hB69 hx0.out
    have y1:=sB hB69 hx1.out
    have y2:=sB hB69 hx2.out
    have y3:=sB hB69 hx3.out
    have cE1:=Hd (eqTab_same 1048576 (by omega) w9 _ _ A (tA6.out.stay hB69) hTw.tabA (by omega) (by omega))
    have cE2:=Hd (fun V (h:Below w9.heap.size w9 V)=>eqTab_same 1048576 (by omega) V _ _ B ((tB6.out.stay hB69).stay h) (hTw.stay h).tabB (by omega) (by omega))
    have hBf:=Hd (hbwxh.out.trans (hB9.mono hbwxh.out.size))
    clear hTw hO hB9 hB69
    go_wp2_with fail
    refine cE1.out.mono ?_
    rintro e wE ⟨rfl,hbE⟩
    replace e2:=sB hbE e2
    replace e3:=sB hbE e3
    replace y2:=sB hbE y2
    replace y3:=sB hbE y3
    have cE3:=Hd (cE2.out wE hbE)
    have hBE:=Hd (hBf.out.trans (hbE.mono hBf.out.size))
    clear cE1 cE2 e0 e1 y0 y1 hbE hBf
    go_wp2_with fail
    refine cE3.out.mono ?_
    rintro e wF ⟨rfl,hbF⟩
    have hBF:=Hd (hBE.out.trans (hbF.mono hBE.out.size))
    clear cE3 e2 e3 y2 y3 hbF hBE
    go_wp2_with fail
    refine(wakes9_any _ ((hEh.out _ hBF.out).env)).mono ?_
    rintro e wz ⟨rfl,hbz⟩
    have hbzz:=Hd (hBF.out.trans (hbz.mono hBF.out.size))
    clear hbz
    go_wp2
    go_ret
    exact⟨rfl,hbzz.out⟩
end Go.Proofs.YtidplkfhodpdhaaGreatDoor.tab
