/- A left join without a condition is the join and what is left, filled up; with one that is never true it is the table, filled up: for every two tables, a language and conditions, not above the bound of the statement, that may be read, where the listed variables of the library hold what the program's text lays. -/
import Derived.Test.YtmpldjbdhbapbaaGreatDoorJnHalf
import Derived.Test.YtmpldjbdhbapbaaGreatDoorTabMayA
import Derived.Test.YtmpldjbdhbapbaaGreatDoorJnLeft
import Derived.Test.YtmpldjbdhbapbaaGreatDoorTabPutA
set_option linter.unusedSimpArgs false
set_option linter.unusedVariables false
set_option maxRecDepth 100000
set_option maxHeartbeats 16000000
namespace Go.Proofs.YtmpldjbdhbapbaaGreatDoor.tab
open Go.ChangeShapes Go.WideShapes Go.ChangeAt Go.RowKit kit dec val
open hyp (RowA TextsA CellsStay stay_of_below textsV textsV_length own_row)
theorem tabA_names{w:World}{N:Nat}{n r:Value}{t:Tab}(h:TabA w N (.agg #[n,r]) t):TextsA w w.heap.size n t.vars:=by
 obtain⟨vv,rv,e,hv,hr⟩:=h.ex
 injection e with e
 have e2:=Array.mk.inj e
 simp only[List.cons.injEq,and_true]at e2
 obtain⟨rfl,rfl⟩:=e2
 exact hv
theorem project_mayL(w:World)(hE:Env w)(va vx:Value)(A:Tab)(X:List ByteArray)(hA:TabA w 1048576 va A)(hX:TextsA w w.heap.size vx X)(ma:mayT A=true)(mx:namesB X=true)(ha:A.rows.length≤1048575):
 Calls Tryz.prog 11 #[va,vx] w fun e w'=>∃v,e=.returned v∧TabO w w' 1048576 v (projT A X):=by
 have h1:=(names_parts (may_rows ma).1).1
 have h2:=(names_parts mx).1
 have h:=project_any 1048576 (by omega) w hE va vx A X hA hX (by omega) (by omega) (by omega) (by omega)
 have e:projZ A X=projT A X:=by unfold projZ;rw[ma,mx];simp
 rwa [e]at h
theorem jlefts_any(w:World)(hE:Env w)(v va ra vb rb ov:Value)(A B:Tab)(lang:Int)(hT:TwoJ w 1048576 v va ra vb rb ov A B lang):
 Calls Tryz.prog 3 #[v] w fun e w'=>e=.returned (.bool true)∧Below w.heap.size w w':=by
 obtain⟨av,cv,hav,-⟩:=hT.av.form
 obtain⟨ar,cr,har,-,-⟩:=hT.ar.form
 obtain⟨bv,dv,hbv,-⟩:=hT.bv.form
 obtain⟨br,dr,hbr,-,-⟩:=hT.br.form
 obtain⟨oo,lo,co,hov⟩:=hT.ov
 subst hav har hbv hbr hov
 have hveq:=hT.eq
 subst hveq
 have hfew:=hT.few
 have hq:=Blk.new w #[.slice av A.vars.length cv,.slice ar A.rows.length cr,.slice bv B.vars.length dv,.slice br B.rows.length dr,.int .i64 lang,.slice oo lo co] 28
 have hal:Below w.heap.size w (w.alloc (.cells #[.slice av A.vars.length cv,.slice ar A.rows.length cr,.slice bv B.vars.length dv,.slice br B.rows.length dr,.int .i64 lang,.slice oo lo co] 28)):=(Below.refl _ _).alloc (Nat.le_refl _) _
 have cL:=Hd (lightJ_any _ 1048576 (by omega) _ _ _ _ _ _ A B lang (hT.stay hal))
 have cA:=Hd (fun V (h:Below w.heap.size w V) h1 h2=>refMay_any 1048576 (by omega) V _ A (hT.stay h).tabA h1 h2)
 have cB:=Hd (fun V (h:Below w.heap.size w V) h1 h2=>refMay_any 1048576 (by omega) V _ B (hT.stay h).tabB h1 h2)
 have x0:=hq.cell 0 rfl
 have x1:=hq.cell 1 rfl
 have x2:=hq.cell 2 rfl
 have x3:=hq.cell 3 rfl
 have x4:=hq.cell 4 rfl
 have x5:=hq.cell 5 rfl
 replace hal:=Hd hal
 clear hq
 go_enter Tryz.func3,Tryz.ntmps3
 go_wp2_with fail
 refine cL.out.mono ?_
 rintro e w2 ⟨rfl,hb2⟩
 replace x0:=sB hb2 x0
 replace x1:=sB hb2 x1
 replace x2:=sB hb2 x2
 replace x3:=sB hb2 x3
 replace x4:=sB hb2 x4
 replace x5:=sB hb2 x5
 have hB2:=hal.out.trans (hb2.mono hal.out.size)
 cases hl:lightJ A B with
 |false=>
  replace hB2:=Hd hB2
  clear cA cB cL hb2 hal x0 x1 x2 x3 x4 x5
  go_wp2_with fail
  refine(wakesJ_any _ (hE.below hB2.out)).mono ?_
  rintro e wz ⟨rfl,hbz⟩
  have hbzz:=Hd (hB2.out.trans (hbz.mono hB2.out.size))
  clear hbz
  go_wp2
  go_ret
  exact⟨rfl,hbzz.out⟩
 | true =>
  obtain⟨l1,l2,l3,l4,l5,l6⟩:=lightJ_parts hl
  obtain⟨wtA,wtB⟩:=wt_lightJ hl
  have cA2:=Hd (cA.out w2 hB2 (by omega) (by omega))
  replace hB2:=Hd hB2
  replace hl:=Hd hl
  replace wtA:=Hd wtA
  replace wtB:=Hd wtB
  clear cL cA hb2 hal l1 l2
  go_wp2_with fail
  refine cA2.out.mono ?_
  rintro e w3 ⟨rfl,hb3⟩
  replace x0:=sB hb3 x0
  replace x1:=sB hb3 x1
  replace x2:=sB hb3 x2
  replace x3:=sB hb3 x3
  replace x4:=sB hb3 x4
  replace x5:=sB hb3 x5
  have hB3:=hB2.out.trans (hb3.mono hB2.out.size)
  cases hmA:mayT A with
  |false=>
   replace hB3:=Hd hB3
   clear cA2 cB hb3 hB2 x0 x1 x2 x3 x4 x5
   go_wp2_with fail
   refine(wakesJ_any _ (hE.below hB3.out)).mono ?_
   rintro e wz ⟨rfl,hbz⟩
   have hbzz:=Hd (hB3.out.trans (hbz.mono hB3.out.size))
   clear hbz
   go_wp2
   go_ret
   exact⟨rfl,hbzz.out⟩
  | true =>
   have cB2:=Hd (cB.out w3 hB3 (by omega) (by omega))
   replace hB3:=Hd hB3
   clear cA2 cB hb3 hB2
   go_wp2_with fail
   refine cB2.out.mono ?_
   rintro e w4 ⟨rfl,hb4⟩
   replace x0:=sB hb4 x0
   replace x1:=sB hb4 x1
   replace x2:=sB hb4 x2
   replace x3:=sB hb4 x3
   replace x4:=sB hb4 x4
   replace x5:=sB hb4 x5
   have hB4:=Hd (hB3.out.trans (hb4.mono hB3.out.size))
   clear cB2 hb4 hB3
   cases hmB:mayT B with
   |false=>
    clear x0 x1 x2 x3 x4 x5
    go_wp2_with fail
    refine(wakesJ_any _ (hE.below hB4.out)).mono ?_
    rintro e wz ⟨rfl,hbz⟩
    have hbzz:=Hd (hB4.out.trans (hbz.mono hB4.out.size))
    clear hbz
    go_wp2
    go_ret
    exact⟨rfl,hbzz.out⟩
   | true =>
    have hs1:IntKind.i64.wrap ((A.vars.length:Int)+(B.vars.length:Int))=(A.vars.length:Int)+(B.vars.length:Int):=IntWalk.i64_in _ (by omega)
    have hs1b:wrap64 ((A.vars.length:Int)+(B.vars.length:Int))=(A.vars.length:Int)+(B.vars.length:Int):=IntWalk.wrap64_in _ (by omega)
    replace hs1:=Hd hs1
    replace hs1b:=Hd hs1b
    replace hmA:=Hd hmA
    replace hmB:=Hd hmB
    by_cases h64:A.vars.length+B.vars.length≤64
    case neg=>
     have h64i:(64:Int)<(A.vars.length:Int)+(B.vars.length:Int):=by omega
     clear h64
     have hs1o:=hs1.out
     have hs1bo:=hs1b.out
     go_wp2_with fail
     refine(wakesJ_any _ (hE.below hB4.out)).mono ?_
     rintro e wz ⟨rfl,hbz⟩
     have hbzz:=Hd (hB4.out.trans (hbz.mono hB4.out.size))
     clear hbz
     go_wp2
     go_ret
     exact⟨rfl,hbzz.out⟩
    have h64i:¬(64:Int)<(A.vars.length:Int)+(B.vars.length:Int):=by omega
    have hT4:=Hd (fun V (h:Below w4.heap.size w4 V)=>hT.stay (hB4.out.trans (h.mono hB4.out.size)))
    have hE4:=Hd (fun V (h:Below w4.heap.size w4 V)=>hE.below (hB4.out.trans (h.mono hB4.out.size)))
    have kA:∀r∈A.rows,wtL r≤1100000:=fun r hr=>by have:=wtA.out r hr;omega
    have kB:∀r∈B.rows,wtL r≤1100000:=fun r hr=>by have:=wtB.out r hr;omega
    have rA:A.rows.length≤1000:=by omega
    have rB:B.rows.length≤1000:=by omega
    have hf64:(B.vars.foldl addN A.vars).length≤64:=Nat.le_trans (foldN_len _ _) h64
    have hf:=joinT_rows (a:=A) (b:=B) hf64
    obtain⟨mL,sL,pL⟩:=left_yes hmA.out hmB.out hf64
    have hn:=names_join hmA.out hmB.out hf64
    have mN:mayT (leftT false A B)=true:=by rw[left_no];exact projT_may hmA.out hn
    have lenL:∀y,(leftT y A B).rows.length≤1640:=fun y=>by
     rw[←leftK_all]
     exact Nat.le_trans (leftK_len y A B _ (Nat.le_refl _)) (Nat.mul_le_mul l3 (show B.rows.length+1≤41 by omega))
    have wL:∀y,∀r∈(leftT y A B).rows,wtL r≤1100000:=fun y r hr=>by
     have:=wt_left hmA.out hmB.out y h64 wtA.out wtB.out r hr
     omega
    have hzY:leftZ true A B=leftT true A B:=by unfold leftZ;rw[if_pos ⟨hmA.out,hmB.out,hf64⟩]
    have hzN:leftZ false A B=leftT false A B:=by unfold leftZ;rw[if_pos ⟨hmA.out,hmB.out,hf64⟩]
    have hrs:A.rows.length * (B.rows.length+1)≤1048576:=Nat.le_trans (Nat.mul_le_mul l3 (show B.rows.length+1≤41 by omega)) (by decide)
    have sN:=same_self mN
    have hpj:=left_no A B
    have mJ:=joinT_may hmA.out hmB.out
    have mT:=some_may B hmA.out false false
    have lT:=some_len A B false false
    obtain⟨J,hJ⟩:∃J,joinT A B=J:=⟨_,rfl⟩
    obtain⟨T,hT0⟩:∃T,someT A B false false=T:=⟨_,rfl⟩
    have hJv:J.vars=B.vars.foldl addN A.vars:=by rw[←hJ,hf]
    rw[hJ,hT0]at sL pL
    rw[hJ]at mJ
    rw[hT0]at mT lT
    rw[←hJv]at hpj hn
    have mP:=projT_may mT hn
    have mU:=unionT_may mJ mP
    have lP:(projT T J.vars).rows.length≤40:=by
     have:(projT T J.vars).rows.length=T.rows.length:=by simp[projT]
     omega
    have hu:=union_same mJ mP rfl
    have lU:J.rows.length+(projT T J.vars).rows.length≤1640:=by
     have h1:=pL.length_eq
     rw[hu]at h1
     have h2:(J.rows++(projT T J.vars).rows).length≤1640:=by rw[←h1];exact lenL true
     rw[List.length_append]at h2
     exact h2
    obtain⟨U,hU⟩:∃U,unionT J (projT T J.vars)=U:=⟨_,rfl⟩
    have lUr:U.rows.length≤1640:=by
     rw[←hU,hu]
     show(J.rows++(projT T J.vars).rows).length≤1640
     rw[List.length_append]
     exact lU
    rw[hU]at sL pL mU
    have keyU:KeyL U:=key_light fun r hr=>wL true r (pL.mem_iff.2 hr)
    have keyL:=fun y=>key_light (A:=leftT y A B) (wL y)
    have lY:=lenL true
    have lN:=lenL false
    obtain⟨LY,hLY⟩:∃t,leftT true A B=t:=⟨_,rfl⟩
    obtain⟨LN,hLN⟩:∃t,leftT false A B=t:=⟨_,rfl⟩
    obtain⟨PT,hPT⟩:∃t,projT T J.vars=t:=⟨_,rfl⟩
    have kY:=keyL true
    have kN:=keyL false
    rw[hLY]at hzY mL sL pL lY kY
    rw[hLN]at hzN mN sN hpj lN kN
    rw[hPT]at mP lP hU lU
    have cJ:=fun V (h:Below w4.heap.size w4 V)=>jhash_may V (hE4.out V h) _ _ A B (hT4.out V h).tabA (hT4.out V h).tabB hmA.out hmB.out rA rB kA kB
    have cT:=fun V (h:Below w4.heap.size w4 V)=>janti_may V (hE4.out V h) _ _ A B (hT4.out V h).tabA (hT4.out V h).tabB hmA.out hmB.out rA rB kA kB
    rw[hJ]at cJ
    rw[hT0]at cT
    have cY:=fun V (h:Below w4.heap.size w4 V) tp pl=>jleft_any 1048576 (by omega) V (hE4.out V h) _ _ A B lang true tp pl (hT4.out V h).tabA (hT4.out V h).tabB (by omega) (by omega) (by omega) (by omega) (by omega) hrs kA kB
    have cN:=fun V (h:Below w4.heap.size w4 V) tp pl=>jleft_any 1048576 (by omega) V (hE4.out V h) _ _ A B lang false tp pl (hT4.out V h).tabA (hT4.out V h).tabB (by omega) (by omega) (by omega) (by omega) (by omega) hrs kA kB
    rw[hzY]at cY
    rw[hzN]at cN
    have cP:=fun V (h:Below w4.heap.size w4 V) vt vx (tt:TabA V 1048576 vt T) (hx:TextsA V V.heap.size vx J.vars)=>project_mayL V (hE4.out V h) vt vx T J.vars tt hx mT hn (by omega)
    rw[hPT]at cP
    have cQ:=fun V (h:Below w4.heap.size w4 V) vx (hx:TextsA V V.heap.size vx J.vars)=>project_mayL V (hE4.out V h) _ vx A J.vars (hT4.out V h).tabA hx hmA.out hn (by omega)
    rw[←hpj]at cQ
    have cU:=fun V (h:Below w4.heap.size w4 V) vj vp (tj:TabA V 1048576 vj J) (tp:TabA V 1048576 vp PT)=>union_may V (hE4.out V h) vj vp J PT tj tp mJ mP (by omega)
    rw[hU]at cU
    have cS:=fun V (h:Below w4.heap.size w4 V) v1 v2 (t1:TabA V 1048576 v1 LY) (t2:TabA V 1048576 v2 U)=>same_may V (hE4.out V h) v1 v2 LY U t1 t2 mL mU (by omega) (by omega) kY keyU
    rw[sL]at cS
    have cR:=fun V (h:Below w4.heap.size w4 V) v1 v2 (t1:TabA V 1048576 v1 LN) (t2:TabA V 1048576 v2 LN)=>same_may V (hE4.out V h) v1 v2 LN LN t1 t2 mN mN (by omega) (by omega) kN kN
    rw[sN]at cR
    replace cJ:=Hd cJ
    replace cT:=Hd cT
    replace cY:=Hd cY
    replace cN:=Hd cN
    replace cP:=Hd cP
    replace cQ:=Hd cQ
    replace cU:=Hd cU
    replace cS:=Hd cS
    replace cR:=Hd cR
    have hB4b:=Hd (fun V (h:Below w4.heap.size w4 V)=>hB4.out.trans (h.mono hB4.out.size))
    clear hT hE hT4 kA kB rA rB hf64 hf mL sL pL hn mN lenL wL hzY hzN hrs sN hpj mJ mT lT hJ hT0 hJv mP mU lP hu lU hU lUr keyU keyL lY lN hLY hLN hPT kY kN hB4 hl wtA wtB hmA hmB
    have hs1o:=hs1.out
    have hs1bo:=hs1b.out
    go_upto_region 5 with fail
    clear hs1o hs1bo hs1 hs1b
    obtain⟨wy,hwy⟩:∃z,w4.alloc (.cells #[.int .i64 1,.string ⟨#[]⟩,.int .i64 1,.bool true,.int .i64 0,.string ⟨#[]⟩,.string ⟨#[]⟩,.slice none 0 0,.bool false,.slice none 0 0,.slice none 0 0,.slice none 0 0,.slice none 0 0] 39)=z:=⟨_,rfl⟩
    obtain⟨w5,hw5⟩:∃z,wy.alloc (.cells #[.int .i64 1,.string ⟨#[]⟩,.int .i64 1,.bool false,.int .i64 0,.string ⟨#[]⟩,.string ⟨#[]⟩,.slice none 0 0,.bool false,.slice none 0 0,.slice none 0 0,.slice none 0 0,.slice none 0 0] 39)=z:=⟨_,rfl⟩
    rw[hwy,hw5]
    have qy:Blk wy w4.heap.size #[.int .i64 1,.string ByteArray.empty,.int .i64 1,.bool true,.int .i64 0,.string ByteArray.empty,.string ByteArray.empty,.slice none 0 0,.bool false,.slice none 0 0,.slice none 0 0,.slice none 0 0,.slice none 0 0] 39:=by rw[←hwy];exact Blk.new w4 #[.int .i64 1,.string ⟨#[]⟩,.int .i64 1,.bool true,.int .i64 0,.string ⟨#[]⟩,.string ⟨#[]⟩,.slice none 0 0,.bool false,.slice none 0 0,.slice none 0 0,.slice none 0 0,.slice none 0 0] 39
    have qn:Blk w5 wy.heap.size #[.int .i64 1,.string ByteArray.empty,.int .i64 1,.bool false,.int .i64 0,.string ByteArray.empty,.string ByteArray.empty,.slice none 0 0,.bool false,.slice none 0 0,.slice none 0 0,.slice none 0 0,.slice none 0 0] 39:=by rw[←hw5];exact Blk.new wy #[.int .i64 1,.string ⟨#[]⟩,.int .i64 1,.bool false,.int .i64 0,.string ⟨#[]⟩,.string ⟨#[]⟩,.slice none 0 0,.bool false,.slice none 0 0,.slice none 0 0,.slice none 0 0,.slice none 0 0] 39
    have hy:Below w4.heap.size w4 wy:=by rw[←hwy];exact(Below.refl _ _).alloc (Nat.le_refl _) _
    have hy5:Below wy.heap.size wy w5:=by rw[←hw5];exact(Below.refl _ _).alloc (Nat.le_refl _) _
    have sy:wy.heap.size=w4.heap.size+1:=by rw[←hwy];simp
    have g5:=hy.trans (hy5.mono hy.size)
    replace qy:=blk_stayL qy hy5
    rw[sy]at qn
    replace x0:=sB g5 x0
    replace x1:=sB g5 x1
    replace x2:=sB g5 x2
    replace x3:=sB g5 x3
    replace x4:=sB g5 x4
    replace x5:=sB g5 x5
    replace hwy:=Hd hwy
    replace hw5:=Hd hw5
    replace qy:=Hd qy
    replace qn:=Hd qn
    clear hy hy5 sy
    go_wp2_with fail
    refine(cJ.out w5 g5).mono ?_
    rintro e w6 ⟨v,rfl,hO⟩
    obtain⟨vv,rv,rfl,hbw6,hown,hszs,hMR⟩:=hO
    obtain⟨anw6,cnw6,hvn⟩:=own_form4x hown
    obtain⟨arw6,crw6,hvr⟩:=hMR.form
    subst hvn
    subst hvr
    have tw6:TabA w6 1048576 _ _:=⟨_,_,rfl,⟨own_row (by rw[textsV_length];exact hown),hszs⟩,hMR.read⟩
    clear hown hszs hMR
    have halw7:Below w6.heap.size w6 (w6.alloc (.cells #[.slice anw6 J.vars.length cnw6,.slice arw6 J.rows.length crw6] 25)):=(Below.refl _ _).alloc (Nat.le_refl _) _
    have qw7:=Blk.new w6 #[.slice anw6 J.vars.length cnw6,.slice arw6 J.rows.length crw6] 25
    have tw7:=tw6.stay halw7
    have hw6:=g5.trans (hbw6.mono g5.size)
    have hw7:=hw6.trans (halw7.mono hw6.size)
    replace x0:=sB hbw6 x0
    replace x1:=sB hbw6 x1
    replace x2:=sB hbw6 x2
    replace x3:=sB hbw6 x3
    replace x4:=sB hbw6 x4
    replace x5:=sB hbw6 x5
    replace x0:=sB halw7 x0
    replace x1:=sB halw7 x1
    replace x2:=sB halw7 x2
    replace x3:=sB halw7 x3
    replace x4:=sB halw7 x4
    replace x5:=sB halw7 x5
    have h57:=hbw6.trans (halw7.mono hbw6.size)
    have ky:=blk_stayL qy.out h57
    have k0:=ky.cell 0 rfl
    have k1:=ky.cell 1 rfl
    have k2:=ky.cell 2 rfl
    have k3:=ky.cell 3 rfl
    have k4:=ky.cell 4 rfl
    have k5:=ky.cell 5 rfl
    have k6:=ky.cell 6 rfl
    have k7:=ky.cell 7 rfl
    have k8:=ky.cell 8 rfl
    have k9:=ky.cell 9 rfl
    have k10:=ky.cell 10 rfl
    have k11:=ky.cell 11 rfl
    have k12:=ky.cell 12 rfl
    replace ky:=Hd ky
    replace qn:=Hd (blk_stayL qn.out h57)
    clear hbw6 halw7 hw6 tw6 cJ qy h57
    go_upto_region 6 with fail
    obtain⟨p5,hp5⟩:∃p,w6.heap.size=p:=⟨_,rfl⟩
    rw[hp5]at qw7
    try rw[hp5]
    generalize w6.alloc (.cells #[.slice anw6 J.vars.length cnw6,.slice arw6 J.rows.length crw6] 25)=w7 at *
    replace hp5:=Hd hp5
    go_wp2_with fail
    clear k0 k1 k2 k3 k4 k5 k6 k7 k8 k9 k10 k11 k12
    refine(cY.out w7 hw7 _ _).mono ?_
    rintro e w8 ⟨v,rfl,hO⟩
    obtain⟨vv,rv,rfl,hbw8,hown,hszs,hMR⟩:=hO
    obtain⟨anw8,cnw8,hvn⟩:=own_form4x hown
    obtain⟨arw8,crw8,hvr⟩:=hMR.form
    subst hvn
    subst hvr
    have tw8:TabA w8 1048576 _ _:=⟨_,_,rfl,⟨own_row (by rw[textsV_length];exact hown),hszs⟩,hMR.read⟩
    clear hown hszs hMR
    have halw9:Below w8.heap.size w8 (w8.alloc (.cells #[.slice anw8 LY.vars.length cnw8,.slice arw8 LY.rows.length crw8] 25)):=(Below.refl _ _).alloc (Nat.le_refl _) _
    have qw9:=Blk.new w8 #[.slice anw8 LY.vars.length cnw8,.slice arw8 LY.rows.length crw8] 25
    have tw9:=tw8.stay halw9
    have hw8:=hw7.trans (hbw8.mono hw7.size)
    have hw9:=hw8.trans (halw9.mono hw8.size)
    replace x0:=sB hbw8 x0
    replace x1:=sB hbw8 x1
    replace x2:=sB hbw8 x2
    replace x3:=sB hbw8 x3
    replace x4:=sB hbw8 x4
    replace x5:=sB hbw8 x5
    replace x0:=sB halw9 x0
    replace x1:=sB halw9 x1
    replace x2:=sB halw9 x2
    replace x3:=sB halw9 x3
    replace x4:=sB halw9 x4
    replace x5:=sB halw9 x5
    have h79:=hbw8.trans (halw9.mono hbw8.size)
    have kn:=blk_stayL qn.out h79
    have k0:=kn.cell 0 rfl
    have k1:=kn.cell 1 rfl
    have k2:=kn.cell 2 rfl
    have k3:=kn.cell 3 rfl
    have k4:=kn.cell 4 rfl
    have k5:=kn.cell 5 rfl
    have k6:=kn.cell 6 rfl
    have k7:=kn.cell 7 rfl
    have k8:=kn.cell 8 rfl
    have k9:=kn.cell 9 rfl
    have k10:=kn.cell 10 rfl
    have k11:=kn.cell 11 rfl
    have k12:=kn.cell 12 rfl
    have q79:=blk_stayL qw7 h79
    have t79:=tw7.stay h79
    clear hbw8 halw9 hw8 tw8 cY ky qn h79 kn qw7 tw7 hw7
    go_upto_region 7 with fail
    obtain⟨p6,hp6⟩:∃p,w8.heap.size=p:=⟨_,rfl⟩
    rw[hp6]at qw9
    try rw[hp6]
    generalize w8.alloc (.cells #[.slice anw8 LY.vars.length cnw8,.slice arw8 LY.rows.length crw8] 25)=w9 at *
    replace hp6:=Hd hp6
    go_wp2_with fail
    clear k0 k1 k2 k3 k4 k5 k6 k7 k8 k9 k10 k11 k12
    refine(cN.out w9 hw9 _ _).mono ?_
    rintro e wa ⟨v,rfl,hO⟩
    obtain⟨vv,rv,rfl,hbwa,hown,hszs,hMR⟩:=hO
    obtain⟨anwa,cnwa,hvn⟩:=own_form4x hown
    obtain⟨arwa,crwa,hvr⟩:=hMR.form
    subst hvn
    subst hvr
    have twa:TabA wa 1048576 _ _:=⟨_,_,rfl,⟨own_row (by rw[textsV_length];exact hown),hszs⟩,hMR.read⟩
    clear hown hszs hMR
    have halwB:Below wa.heap.size wa (wa.alloc (.cells #[.slice anwa LN.vars.length cnwa,.slice arwa LN.rows.length crwa] 25)):=(Below.refl _ _).alloc (Nat.le_refl _) _
    have qwB:=Blk.new wa #[.slice anwa LN.vars.length cnwa,.slice arwa LN.rows.length crwa] 25
    have twB:=twa.stay halwB
    have hwa:=hw9.trans (hbwa.mono hw9.size)
    have hwB:=hwa.trans (halwB.mono hwa.size)
    replace x0:=sB hbwa x0
    replace x1:=sB hbwa x1
    replace x2:=sB hbwa x2
    replace x3:=sB hbwa x3
    replace x4:=sB hbwa x4
    replace x5:=sB hbwa x5
    replace x0:=sB halwB x0
    replace x1:=sB halwB x1
    replace x2:=sB halwB x2
    replace x3:=sB halwB x3
    replace x4:=sB halwB x4
    replace x5:=sB halwB x5
    have h9B:=hbwa.trans (halwB.mono hbwa.size)
    have q7B:=blk_stayL q79 h9B
    have t7B:=t79.stay h9B
    have q9B:=blk_stayL qw9 h9B
    have t9B:=tw9.stay h9B
    clear hbwa halwB hwa twa cN h9B q79 t79 qw9 tw9 hw9
    go_upto_region 8 with fail
    obtain⟨p8,hp8⟩:∃p,wa.heap.size=p:=⟨_,rfl⟩
    rw[hp8]at qwB
    try rw[hp8]
    generalize wa.alloc (.cells #[.slice anwa LN.vars.length cnwa,.slice arwa LN.rows.length crwa] 25)=wB at *
    replace hp8:=Hd hp8
    have c0:=q7B.cell 0 rfl
    have c1:=q7B.cell 1 rfl
    have c2:=q9B.cell 0 rfl
    have c3:=q9B.cell 1 rfl
    have c4:=qwB.cell 0 rfl
    have c5:=qwB.cell 1 rfl
    have hX7:=tabA_names t7B
    have hd:Below wB.heap.size wB wB.drew:=below_drewN (Below.refl _ _) 1
    clear q7B q9B qwB
    refine wp_region_held_drew (S:=fun V=>Below wB.heap.size wB V) (by kernel_rfl) hd (fun hS=>?_)
    generalize wB.drew=V0 at *
    have r4:=Hd (fun V (h:Below wB.heap.size wB V)=>hwB.trans (h.mono hwB.size))
    replace t7B:=Hd t7B
    replace t9B:=Hd t9B
    replace twB:=Hd twB
    replace hX7:=Hd hX7
    refine tkS [0,1,2,3,4,5,6,7,8,9,10,11,12,14,15] ?_
    iterate 15
     refine tkC ?_ rfl (fun w' hS=>?_) hS ?_
     rotate_left
     ·
      have y0:=sB hS x0;have y1:=sB hS x1;have y2:=sB hS x2;have y3:=sB hS x3;have y4:=sB hS c0;have y5:=sB hS c1;have y6:=sB hS c2;have y7:=sB hS c3;have y8:=sB hS c4;have y9:=sB hS c5
      go_simp
      try with_reducible rfl
    refine rdH 13 rfl (fun K hK=>?_)
    clear hS
    go_simp
    refine(cT.out V0 (r4.out _ hd)).mono ?_
    rintro e wC ⟨v,rfl,hO⟩
    obtain⟨vv,rv,rfl,hbwC,hown,hszs,hMR⟩:=hO
    obtain⟨anwC,cnwC,hvn⟩:=own_form4x hown
    obtain⟨arwC,crwC,hvr⟩:=hMR.form
    subst hvn
    subst hvr
    have twC:TabA wC 1048576 _ _:=⟨_,_,rfl,⟨own_row (by rw[textsV_length];exact hown),hszs⟩,hMR.read⟩
    clear hown hszs hMR
    go_wp2_with fail
    refine hKo hK (hd.trans (hbwC.mono hd.size)) (fun hS=>?_)
    clear hK K
    have hC:=hd.trans (hbwC.mono hd.size)
    refine rdH 16 rfl (fun K hK=>?_)
    clear hS
    go_simp
    refine(cP.out wC (r4.out _ hC) _ _ twC (TextsA.below hX7.out hC)).mono ?_
    rintro e wD ⟨v,rfl,hO⟩
    obtain⟨vv,rv,rfl,hbwD,hown,hszs,hMR⟩:=hO
    obtain⟨anwD,cnwD,hvn⟩:=own_form4x hown
    obtain⟨arwD,crwD,hvr⟩:=hMR.form
    subst hvn
    subst hvr
    have twD:TabA wD 1048576 _ _:=⟨_,_,rfl,⟨own_row (by rw[textsV_length];exact hown),hszs⟩,hMR.read⟩
    clear hown hszs hMR
    go_wp2_with fail
    refine hKo hK (hC.trans (hbwD.mono hC.size)) (fun hS=>?_)
    clear hK K
    have hD:=hC.trans (hbwD.mono hC.size)
    refine rdH 17 rfl (fun K hK=>?_)
    clear hS
    go_simp
    refine(cU.out wD (r4.out _ hD) _ _ (t7B.out.stay hD) twD).mono ?_
    rintro e wF ⟨v,rfl,hO⟩
    obtain⟨vv,rv,rfl,hbwF,hown,hszs,hMR⟩:=hO
    obtain⟨anwF,cnwF,hvn⟩:=own_form4x hown
    obtain⟨arwF,crwF,hvr⟩:=hMR.form
    subst hvn
    subst hvr
    have twF:TabA wF 1048576 _ _:=⟨_,_,rfl,⟨own_row (by rw[textsV_length];exact hown),hszs⟩,hMR.read⟩
    clear hown hszs hMR
    go_wp2_with fail
    refine hKo hK (hD.trans (hbwF.mono hD.size)) (fun hS=>?_)
    clear hK K
    have hF:=hD.trans (hbwF.mono hD.size)
    refine rdH 18 rfl (fun K hK=>?_)
    clear hS
    go_simp
    refine(cS.out wF (r4.out _ hF) _ _ (t9B.out.stay hF) twF).mono ?_
    rintro e wG ⟨rfl,hbG⟩
    go_wp2_with fail
    refine hKo hK (hF.trans (hbG.mono hF.size)) (fun hS=>?_)
    clear hK K
    have hG:=hF.trans (hbG.mono hF.size)
    clear hbG hd hC hD hF twC twD twF hbwC hbwD hbwF cT cP cU cS
    refine tkS [19,20,21,22,23,24,25] ?_
    iterate 7
     refine tkC ?_ rfl (fun w' hS=>?_) hS ?_
     rotate_left
     ·
      have y0:=sB hS x0;have y1:=sB hS x1;have y2:=sB hS x2;have y3:=sB hS x3;have y4:=sB hS c0;have y5:=sB hS c1;have y6:=sB hS c2;have y7:=sB hS c3;have y8:=sB hS c4;have y9:=sB hS c5
      go_simp
      try with_reducible rfl
    refine rdH 26 rfl (fun K hK=>?_)
    clear hS
    go_simp
    refine(cQ.out wG (r4.out _ hG) _ (TextsA.below hX7.out hG)).mono ?_
    rintro e wH ⟨v,rfl,hO⟩
    obtain⟨vv,rv,rfl,hbwH,hown,hszs,hMR⟩:=hO
    obtain⟨anwH,cnwH,hvn⟩:=own_form4x hown
    obtain⟨arwH,crwH,hvr⟩:=hMR.form
    subst hvn
    subst hvr
    have twH:TabA wH 1048576 _ _:=⟨_,_,rfl,⟨own_row (by rw[textsV_length];exact hown),hszs⟩,hMR.read⟩
    clear hown hszs hMR
    go_wp2_with fail
    refine hKo hK (hG.trans (hbwH.mono hG.size)) (fun hS=>?_)
    clear hK K
    have hH:=hG.trans (hbwH.mono hG.size)
    refine rdH 27 rfl (fun K hK=>?_)
    clear hS
    go_simp
    refine(cR.out wH (r4.out _ hH) _ _ (twB.out.stay hH) twH).mono ?_
    rintro e wI ⟨rfl,hbI⟩
    go_wp2_with fail
    refine hKo hK (hH.trans (hbI.mono hH.size)) (fun hS=>?_)
    clear hK K
    have hI:=hH.trans (hbI.mono hH.size)
    clear hbI hG hH twH hbwH cQ cR
    refine tkS [28,29] ?_
    iterate 2
     refine tkC ?_ rfl (fun w' hS=>?_) hS ?_
     rotate_left
     ·
      skip
      go_simp
      try with_reducible rfl
    refine rdH 30 rfl (fun K hK=>?_)
    clear hS
    go_simp
    refine(wakesJ_any wI (hE4.out _ (r4.out _ hI))).mono ?_
    rintro e wK ⟨rfl,hbK⟩
    go_wp2_with fail
    refine hKo hK (hI.trans (hbK.mono hI.size)) (fun hS=>?_)
    clear hK K
    have hBf:=Hd (hB4b.out _ (r4.out _ (hI.trans (hbK.mono hI.size))))
    clear hbK hI x0 x1 x2 x3 x4 x5 c0 c1 c2 c3 c4 c5 t7B t9B twB hX7 r4
    refine tkS [31,32] ?_
    iterate 2
     refine tkC ?_ rfl (fun w' hS=>?_) hS ?_
     rotate_left
     ·
      skip
      go_simp
      try with_reducible rfl
    refine wpAnyH_done (by kernel_rfl) ?_ _
    clear hS
    go_wp2
    go_ret
    exact⟨rfl,hBf.out⟩
end Go.Proofs.YtmpldjbdhbapbaaGreatDoor.tab
