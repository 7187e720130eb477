/- Texts JnLoop, JnMore, JnHashF, JnSomeF, JnSomes, JnOpen, JnWt, JnWake, one behind the other. -/
import Derived.Test.YtmpldjbdhbapbaaGreatDoorJnC
import Derived.Test.YtmpldjbdhbapbaaGreatDoorTabPtA
set_option linter.unusedSimpArgs false
set_option linter.unusedVariables false
set_option maxRecDepth 100000
set_option maxHeartbeats 4000000
namespace Go.Proofs.YtmpldjbdhbapbaaGreatDoor.tab
open Go.ChangeShapes Go.WideShapes Go.ChangeAt Go.RowKit kit dec val
open hyp (RowA TextsA CellsStay stay_of_below textsV textsV_length own_row)
theorem jok_yes{A B:Tab}(h:jokZ A B=true):mayT A=true∧mayT B=true∧(B.vars.foldl addN A.vars).length≤64:=by
 unfold jokZ at h
 rw[Bool.and_eq_true,Bool.and_eq_true,decide_eq_true_eq]at h
 exact h
theorem jok_no{A B:Tab}(h:jokZ A B=false):joinZ A B=⟨[],[]⟩:=by
 unfold joinZ joinT
 split
 ·rename_i h1
  unfold jokZ at h
  rw[h1.1,h1.2]at h
  rw[if_neg (by simpa using h)]
 ·rfl
theorem jloop_any (N : Nat) (hN : N ≤ 1048576) (w : World) (hE : Env w) (va vb : Value) (A B : Tab) (hA : TabA w N va A) (hB : TabA w N vb B) (a1 : A.vars.length ≤ 100000) (a2 : A.rows.length ≤ 1048576) (b1 : B.vars.length ≤ 100000) (b2 : B.rows.length ≤ 1048576) (hN64 : 64 ≤ N) (hrs : A.rows.length * B.rows.length ≤ 1048576) :
    Calls Tryz.prog 17 #[va,vb] w fun e w'=>∃v,e=.returned v∧TabO w w' N v (joinZ A B):=by
  obtain⟨vv,rv,rfl,hV,hR⟩:=hA.ex
  obtain⟨vv2,rv2,rfl,hV2,hR2⟩:=hB.ex
  obtain⟨av,cv,rfl,-⟩:=hV.form
  obtain⟨av2,cv2,rfl,-⟩:=hV2.form
  obtain⟨ar,cr,rfl,-,-⟩:=hR.form
  obtain⟨ar2,cr2,rfl,-,-⟩:=hR2.form
  have hal:Below w.heap.size w (((w.alloc (.cells #[.slice av A.vars.length cv,.slice ar A.rows.length cr] 25)).alloc (.cells #[.slice av2 B.vars.length cv2,.slice ar2 B.rows.length cr2] 25)).alloc (.cells #[.slice none 0 0,.slice none 0 0] 25)):=
    (((Below.refl _ _).alloc (Nat.le_refl _) _).alloc (by rw[World.size_alloc];omega) _).alloc (by rw[World.size_alloc,World.size_alloc];omega) _
  have hq0:=((Blk.new w #[.slice av A.vars.length cv,.slice ar A.rows.length cr] 25).alloc (.cells #[.slice av2 B.vars.length cv2,.slice ar2 B.rows.length cr2] 25)).alloc (.cells #[.slice none 0 0,.slice none 0 0] 25)
  have hq1:=(Blk.new (w.alloc (.cells #[.slice av A.vars.length cv,.slice ar A.rows.length cr] 25)) #[.slice av2 B.vars.length cv2,.slice ar2 B.rows.length cr2] 25).alloc (.cells #[.slice none 0 0,.slice none 0 0] 25)
  have hq2:=Blk.new ((w.alloc (.cells #[.slice av A.vars.length cv,.slice ar A.rows.length cr] 25)).alloc (.cells #[.slice av2 B.vars.length cv2,.slice ar2 B.rows.length cr2] 25)) #[.slice none 0 0,.slice none 0 0] 25
  rw[World.size_alloc]at hq1 hq2
  rw[World.size_alloc]at hq2
  obtain⟨w1,hw1⟩:∃w1,(((w.alloc (.cells #[.slice av A.vars.length cv,.slice ar A.rows.length cr] 25)).alloc (.cells #[.slice av2 B.vars.length cv2,.slice ar2 B.rows.length cr2] 25)).alloc (.cells #[.slice none 0 0,.slice none 0 0] 25))=w1:=⟨_,rfl⟩
  have hs1:w1.heap.size=w.heap.size+3:=by rw[←hw1];simp
  rw[hw1]at hal hq0 hq1 hq2
  have hA1:=hA.stay hal
  have hB1:=hB.stay hal
  have hE1:=hE.below hal
  have hR1:=hR.stay hal
  have hR21:=hR2.stay hal
  have hsA:=Hd hV.size
  have hsB:=Hd hV2.size
  have cT:=jtogether_any N hN w1 hE1 _ _ A B hA1 hB1 a1 a2 b1 b2
  have x0:=hq0.cell 0 rfl
  have x1:=hq0.cell 1 rfl
  have y0:=hq1.cell 0 rfl
  have y1:=hq1.cell 1 rfl
  obtain⟨ok,hok⟩:∃ok,jokZ A B=ok:=⟨_,rfl⟩
  rw[hok]at cT
  replace hok:=Hd hok
  replace cT:=Hd cT
  replace hal:=Hd hal
  replace hq0:=Hd hq0
  replace hq1:=Hd hq1
  replace hq2:=Hd hq2
  replace hR1:=Hd hR1
  replace hR21:=Hd hR21
  replace hw1:=Hd hw1
  replace hs1:=Hd hs1
  clear hA hB hA1 hB1 hV hV2 hR hR2 hE hE1
  go_enter Tryz.func17,Tryz.ntmps17
  go_wp2_with fail
  rw[hw1.out]
  refine cT.out.mono ?_
  rintro e w2 ⟨v,rfl,vn,vp,vs,rfl,hb2,hnm,hpl,hpr⟩
  clear cT
  obtain⟨an,cn,rfl⟩:=own_form4x hnm
  obtain⟨ap,cp,rfl⟩:=own_form4x hpl
  obtain⟨asl,csl,rfl⟩:=own_form4x hpr
  have hbA:=hb2.alloc hb2.size (.cells #[.slice an (B.vars.foldl addN A.vars).length cn,.slice ap (atN A.vars B.vars).length cp,.slice asl (shK A.vars B.vars B.vars.length).length csl] 55)
  replace x0:=sB hbA x0
  replace x1:=sB hbA x1
  replace y0:=sB hbA y0
  replace y1:=sB hbA y1
  have hq24:Blk (w2.alloc (.cells #[.slice an (B.vars.foldl addN A.vars).length cn,.slice ap (atN A.vars B.vars).length cp,.slice asl (shK A.vars B.vars B.vars.length).length csl] 55)) (w.heap.size+1+1) #[.slice none 0 0,.slice none 0 0] 25:=(hbA.block _ hq2.out.lt).trans hq2.out
  have hp4:=Hd (Blk.new w2 #[.slice an (B.vars.foldl addN A.vars).length cn,.slice ap (atN A.vars B.vars).length cp,.slice asl (shK A.vars B.vars B.vars.length).length csl] 55)
  replace hbA:=Hd hbA
  replace hnm:=Hd hnm
  replace hpl:=Hd hpl
  replace hpr:=Hd hpr
  have hb2s:=hb2.size
  replace hb2:=Hd hb2
  cases ok with
  | false =>
    have hz:=jok_no hok.out
    replace hz:=Hd hz
    have f2:=Blk.free hq24
    have z0:=hq24.cell 0 rfl
    have z1:=hq24.cell 1 rfl
    clear x0 x1 y0 y1
    go_wp2
    have q0:=hq24.set 0 (.slice none 0 0)
    have hfin:=q0.set 1 (.slice none 0 0)
    have hbf:=((hal.out.trans (hbA.out.mono hal.out.size)).setCell (p:=⟨w.heap.size+1+1,0,none⟩) (by simp;omega) (.slice none 0 0)).setCell (p:=⟨w.heap.size+1+1,1,none⟩) (by simp;omega) (.slice none 0 0)
    refine bodyPost_ret (v:=.agg #[.slice none 0 0,.slice none 0 0]) (results_cell_row rfl _ _ (w.heap.size+1+1) 25 _ (0,0) _ rfl hfin.eq Tryz.underlying25 rfl infoTab) rfl ⟨_,rfl,?_⟩
    rw[hz.out]
    exact tabO_zero hbf
  |true=>
        obtain⟨hmA,hmB,h64⟩:=jok_yes hok.out
        have own4:Hid ((w2.alloc (.cells #[.slice an (B.vars.foldl addN A.vars).length cn,.slice ap (atN A.vars B.vars).length cp,.slice asl (shK A.vars B.vars B.vars.length).length csl] 55)).ownsRow w.heap.size 9 1 (.slice an (B.vars.foldl addN A.vars).length cn) (B.vars.foldl addN A.vars).length (textsV (B.vars.foldl addN A.vars))):=Hd (own_low4 (hnm.out.alloc (.cells #[.slice an (B.vars.foldl addN A.vars).length cn,.slice ap (atN A.vars B.vars).length cp,.slice asl (shK A.vars B.vars B.vars.length).length csl] 55)) (by have:=hs1.out;omega))
        have pl4:=Hd (own_row (by rw[numsN_length];exact hpl.out.alloc (.cells #[.slice an (B.vars.foldl addN A.vars).length cn,.slice ap (atN A.vars B.vars).length cp,.slice asl (shK A.vars B.vars B.vars.length).length csl] 55)):RowA (w2.alloc (.cells #[.slice an (B.vars.foldl addN A.vars).length cn,.slice ap (atN A.vars B.vars).length cp,.slice asl (shK A.vars B.vars B.vars.length).length csl] 55)) (w2.alloc (.cells #[.slice an (B.vars.foldl addN A.vars).length cn,.slice ap (atN A.vars B.vars).length cp,.slice asl (shK A.vars B.vars B.vars.length).length csl] 55)).heap.size (.slice ap (atN A.vars B.vars).length cp) (numsN (atN A.vars B.vars)))
        have pr4:=Hd (pair_of (hpr.out.alloc (.cells #[.slice an (B.vars.foldl addN A.vars).length cn,.slice ap (atN A.vars B.vars).length cp,.slice asl (shK A.vars B.vars B.vars.length).length csl] 55)))
        have hR4:=Hd (hR1.out.stay hbA.out)
        have hR24:=Hd (hR21.out.stay hbA.out)
        have hB4:=Hd (hal.out.trans (hbA.out.mono hal.out.size))
        obtain⟨hnA,hrA⟩:=may_rows hmA
        obtain⟨hnB,hrB⟩:=may_rows hmB
        obtain⟨-,-,hdA⟩:=names_parts hnA
        obtain⟨-,-,hdB⟩:=names_parts hnB
        have hz:joinZ A B=⟨B.vars.foldl addN A.vars,joinRows A B⟩:=by unfold joinZ joinT;rw[hmA,hmB,if_pos h64];simp
        replace hz:=Hd hz
        have hsz:∀s∈B.vars.foldl addN A.vars,s.size≤maxLen:=fun s hs=>by
          rcases(mem_foldN B.vars A.vars).1 hs with h|h
          · exact hsA.out s h
          · exact hsB.out s h
        go_upto_region 4 with fail
        obtain⟨pj,hpj⟩:∃pj,w2.heap.size=pj:=⟨_,rfl⟩
        rw[hpj]at hp4
        try rw[hpj]
        replace hpj:=Hd hpj
        generalize hw4:w2.alloc (.cells #[.slice an (B.vars.foldl addN A.vars).length cn,.slice ap (atN A.vars B.vars).length cp,.slice asl (shK A.vars B.vars B.vars.length).length csl] 55)=w4 at *
        replace hw4:=Hd hw4
        have hJ0:=Hd (JnW.start w4 N (.slice an (B.vars.foldl addN A.vars).length cn))
        have hq24b:=Hd hq24
        have hs1b:=hs1.out
        have hp40:=hp4.out.cell 0 rfl
        have hp4lt:=hp4.out.lt
        have x1b:=Hd x1
        have y1b:=Hd y1
        have hq24lt:=hq24.lt
        rw[←rowsIJ_zero A B]at hJ0
        obtain⟨n,hn⟩:∃n,(B.vars.foldl addN A.vars).length=n:=⟨_,rfl⟩
        have hn64:n≤64:=by omega
        have hp41:=hp4.out.cell 1 rfl
        have hp42:=hp4.out.cell 2 rfl
        clear hq24 hal hbA hnm hpl hpr hq0 hq1 hq2 hb2 hR1 hR21 hw1 hs1
        rw[hn]at own4 hJ0 hp4 hp40 ⊢
        replace hn:=Hd hn
        have hdA2:=Hd hdA
        have hdB2:=Hd hdB
        have hrA2:=Hd hrA
        have hrB2:=Hd hrB
        have hsz2:=Hd hsz
        clear hdA hdB hrA hrB hsz hnA hnB
        have hRA:Hid (∀j (hj:j<A.rows.length),∃b off a c,ar=some ⟨b,off,none⟩∧b<w4.heap.size∧w4.cell? ⟨b,off+j,none⟩=some (.slice a A.rows[j].length c)∧LA w4 N (.slice a A.rows[j].length c) A.rows[j]):=Hd (by
          obtain⟨_,_,e,-,h⟩:=hR4.out.form
          injection e with e1 _ _
          subst e1
          exact h)
        have hRB:Hid (∀j (hj:j<B.rows.length),∃b off a c,ar2=some ⟨b,off,none⟩∧b<w4.heap.size∧w4.cell? ⟨b,off+j,none⟩=some (.slice a B.rows[j].length c)∧LA w4 N (.slice a B.rows[j].length c) B.rows[j]):=Hd (by
          obtain⟨_,_,e,-,h⟩:=hR24.out.form
          injection e with e1 _ _
          subst e1
          exact h)
        obtain⟨wb,rfl⟩:∃wb:World,wb=w4:=⟨_,rfl⟩
        clear hR4 hR24 x0 y0
        replace x1:=sB hJ0.out.below x1
        go_wp2
        go_loopw [30] (fun i wr=>∃(k:Nat) (rv:Value),k≤A.rows.length∧i=.int .i64 (k:Int)∧Hid (JnW wb wr N (.slice an n cn) rv (rowsIJ A B k 0))) (fun i _=>A.rows.length-(intOf i).toNat)
        case atStart=>exact⟨0,_,Nat.zero_le _,rfl,hJ0⟩
        case round=>
          clear hJ0
          obtain⟨i,rv,hi,rfl,hJ⟩:=hrel
          obtain⟨w5,rfl⟩:∃w5:World,w5=wr:=⟨_,rfl⟩
          by_cases hlt:i<A.rows.length
          · have hki : (i : Int) < (A.rows.length : Int) := by omega
            have hi1:=Hd (show i+1≤A.rows.length from hlt)
            obtain⟨b1,o1,a1,c1,rfl,hb1,hcell,hla1⟩:=hRA.out i hlt
            replace hcell:=sB hJ.out.below hcell
            have y1c:=sB hJ.out.below y1b.out
            have hnext:=rowsIJ_next A B hlt
            replace hnext:=Hd hnext
            have hrw:=hrA2.out _ (List.getElem_mem hlt)
            replace hrw:=Hd hrw
            replace hla1:=Hd hla1
            go_wp2
            go_loopw [37] (fun j wr=>∃(k:Nat) (rv:Value),k≤B.rows.length∧j=.int .i64 (k:Int)∧Hid (JnW wb wr N (.slice an n cn) rv (rowsIJ A B i k))) (fun j _=>B.rows.length-(intOf j).toNat)
            case atStart=>exact⟨0,_,Nat.zero_le _,rfl,hJ⟩
            case round=>
              clear hJ hcell y1c
              obtain⟨j,rv,hj,rfl,hJ⟩:=hrel
              by_cases hlj:j<B.rows.length
              · have hji : (j : Int) < (B.rows.length : Int) := by omega
                have hj1:=Hd (show j+1≤B.rows.length from hlj)
                obtain⟨b2,o2,a2,c2,rfl,hb2,hcell2,hla2⟩:=hRB.out j hlj
                replace hcell2:=sB hJ.out.below hcell2
                have p0:=sB hJ.out.below (hp4.out.cell 0 rfl)
                have p1:=sB hJ.out.below (hp4.out.cell 1 rfl)
                have p2:=sB hJ.out.below (hp4.out.cell 2 rfl)
                have hrs:=hrB2.out _ (List.getElem_mem hlj)
                have hyes:=Hd (rowsIJ_yes A B hlt hlj)
                have hno:=Hd (rowsIJ_no A B hlt hlj)
                have hlen:(rowsIJ A B i j).length+1≤1048576:=by
                  have h1:=rowsIJ_len A B i j hlt hj
                  have h2:=Nat.mul_le_mul_right B.rows.length (show i+1≤A.rows.length from hlt)
                  rw[Nat.succ_mul]at h2
                  omega
                have hrs2:=hrs
                unfold rowB at hrs2
                rw[Bool.and_eq_true,decide_eq_true_eq,List.all_eq_true]at hrs2
                have hcJ:=meet_any N (by omega) wr A.vars B.vars A.rows[i] B.rows[j] an n cn _ _ _ _ hdA2.out hdB2.out hrw.out hrs2.1 hrs2.2 hn.out (by omega) ((pl4.out.stay (stay_of_below hJ.out.below)).mono hJ.out.below.size) (pr4.out.stay hJ.out.below) (hla1.out.stay hJ.out.below) (hla2.stay hJ.out.below) (by omega)
                replace hcJ:=Hd hcJ
                replace hlen:=Hd hlen
                clear hrs hrs2 hla2
                generalize rowsIJ A B i j=L1 at *
                generalize A.rows[i]=r at *
                generalize B.rows[j]=s at *
                go_wp2_with fail
                refine hcJ.out.mono ?_
                rintro e wv ⟨hb6,hY,hN6⟩
                have hJ6:=Hd (hJ.out.stay hb6)
                cases hc:compat A.vars B.vars r s with
                | false =>
                  have he:=hN6 hc
                  subst he
                  rw[←hno.out hc]at hJ6
                  replace hc:=Hd hc
                  clear hJ hcJ hY hN6 hb6 p0 p1 p2 hcell2
                  go_wp2
                  go_roundw
                  case rel=>exact⟨j+1,_,hj1.out,by go_num,hJ6⟩
                  case measure=>have:=hj1.out;simp[intOf];omega
                | true =>
                  obtain⟨a3,c3,he,hla3⟩:=hY hc
                  subst he
                  have hx:=Hd (hyes.out hc)
                  generalize joinR A.vars B.vars r s=x at *
                  generalize shared A.vars B.vars r s=sh at *
                  have hq0:wv.heap.size≤wv.heap.size:=Nat.le_refl _
                  obtain⟨q0,hq⟩:∃q0,q0=wv.heap.size:=⟨_,rfl⟩
                  have hM0:Hid (MR wv N (fun b=>wb.heap.size<b∧b<q0) rv L1):=Hd (by rw[hq];exact hJ6.out.rows)
                  replace hq0:q0≤wv.heap.size:=by omega
                  have hla:=Hd hla3
                  replace hq:=Hd hq
                  replace hlen:=hlen.out
                  replace hc:=Hd hc
                  clear hJ hcJ hY hN6 hb6 p0 p1 p2 hcell2 hyes hno hla3
                  have hJ:=hJ6
                  clear hJ6
                  go_upto_region 13 with fail
                  have hal:Below wv.heap.size wv wv.drew:=below_drewN (Below.refl _ _) 1
                  have hJV:=hJ.out.stay hal
                  have hMV:=hM0.out.stay (fun b hS hlt=>hal.block b hlt)
                  have hlaV:=hla.out.stay hal
                  have htlt:=hJ.out.tb.lt
                  have hwV:wv.drew.heap.size=wv.heap.size:=rfl
                  have hS0:Blk wv.drew wb.heap.size #[.slice an n cn,rv] 25∧∀b,q0≤b→b<wv.heap.size→wv.drew.heap[b]? = wv.heap[b]?:=⟨hJV.tb,fun _ _ _=>rfl⟩
                  refine wp_region_late [7] (S:=fun V=>Blk V wb.heap.size #[.slice an n cn,rv] 25∧∀b,q0≤b→b<wv.heap.size→V.heap[b]? = wv.heap[b]?) (by kernel_rfl) hS0 (fun hS=>?_)
                  have hV:=hS0
                  clear hS0 hal hJ hla hM0
                  generalize wv.drew=V0 at *
                  have hcall:=Hd (jrow_any N (by omega) V0 _ _ hlaV)
                  refine tlH 0 ?_ rfl (fun w' hS=>?_) hS ?_
                  rotate_left
                  ·
                    skip
                    go_simp
                    try with_reducible rfl
                  refine tlH 1 ?_ rfl (fun w' hS=>?_) hS ?_
                  rotate_left
                  ·
                    have z0:=hS.1.cell 0 rfl;have z1:=hS.1.cell 1 rfl
                    go_simp
                    try with_reducible rfl
                  refine tlH 2 ?_ rfl (fun w' hS=>?_) hS ?_
                  rotate_left
                  ·
                    skip
                    go_simp
                    try with_reducible rfl
                  refine wpAnyL_ready (i:=3) (by kernel_rfl) rfl (fun K hK=>?_)
                  clear hS
                  go_simp
                  refine(hcall.out).mono ?_
                  rintro e w5 ⟨a9,c9,rfl,hb5,hl5⟩
                  go_wp2_with fail
                  refine hKo hK (⟨(hb5.block _ hV.1.lt).trans hV.1,fun b h1 h2=>(hb5.block b (by omega)).trans (hV.2 b h1 h2)⟩) (fun hS=>?_)
                  clear hK K
                  have hJ5:=hJV.stay hb5
                  have hM5:=hMV.stay (fun b hS hlt=>hb5.block b hlt)
                  have hs5:=hb5.size
                  have hV5:∀b,q0≤b→b<wv.heap.size→w5.heap[b]? = wv.heap[b]?:=fun b h1 h2=>(hb5.block b (by omega)).trans (hV.2 b h1 h2)
                  clear hcall hV hJV hMV hlaV
                  refine wpAnyL_ready (i:=4) (by kernel_rfl) rfl (fun K hK=>?_)
                  clear hS
                  go_simp
                  go_wp2_with fail
                  have hal:=((Below.refl w5.heap.size w5).alloc (Nat.le_refl _) (.cells #[.slice a9 x.length c9] 32))
                  have hJ6:=hJ5.stay hal
                  have hM6:=hM5.stay (fun b hS hlt=>hal.block b hlt)
                  have hl6:=hl5.stay (fun b hS hlt=>hal.block b hlt)
                  have hs6:=World.size_alloc w5 (.cells #[.slice a9 x.length c9] 32)
                  have hn6:(w5.alloc (.cells #[.slice a9 x.length c9] 32)).cell? ⟨w5.heap.size,0,none⟩=some (.slice a9 x.length c9):=(Blk.new w5 #[.slice a9 x.length c9] 32).cell 0 rfl
                  have hV6:∀b,q0≤b→b<wv.heap.size→(w5.alloc (.cells #[.slice a9 x.length c9] 32)).heap[b]? = wv.heap[b]?:=fun b h1 h2=>(hal.block b (by omega)).trans (hV5 b h1 h2)
                  refine hKo hK ⟨hJ6.tb,hV6⟩ (fun hS=>?_)
                  clear hK K hJ5 hM5 hl5 hV5 hb5
                  refine wpAnyL_ready (i:=5) (by kernel_rfl) rfl (fun K hK=>?_)
                  clear hS
                  refine wp_pushR (.tmp 51) (.tmp 54) rfl N (fun b=>wb.heap.size<b∧b<q0) (Fr V0.heap.size w5) _ _ rfl hM6 ?d2 w5.heap.size _ (.slice a9 x.length c9) rfl hn6 hl6 ?d3 hlen ?d5
                  case d2=>intro b hb;rw[hs6];have:=hb.2;omega
                  case d3=>intro b hb;exact⟨by rw[hs6];have:=hb.2;omega,fun h=>by have:=h.2;have:=hb.1;omega⟩
                  intro v' w' hM' hg hvS
                  have hgs:=hg.size
                  rw[hs6]at hgs
                  have hJ8:=Hd (hJ6.push hM' hg (fun g e=>by have:=hvS g e;exact⟨this.1,by rw[hs6];omega⟩) (fun b hb=>⟨hb.1,by have:=hb.2;omega⟩) (fun b hb=>⟨by have:=hb.1;omega,by have:=hb.2;omega⟩))
                  have hV7:Blk w' wb.heap.size _ _:=(hg.block _ hJ6.tb.lt (fun e=>by have:=(hvS _ e.symm).1;omega)).trans hJ6.tb
                  have hV8:∀b,q0≤b→b<wv.heap.size→w'.heap[b]? = wv.heap[b]?:=fun b h1 h2=>(hg.block b (by rw[hs6];omega) (fun e=>by have:=(hvS _ e.symm).2;omega)).trans (hV6 b h1 h2)
                  obtain⟨ao7,cap7,hv7⟩:=hM'.form
                  rw[List.length_append,List.length_singleton]at hv7
                  subst hv7
                  refine hKo hK ⟨hV7,hV8⟩ (fun hS=>?_)
                  clear hK K hJ6 hM6 hl6 hn6 hM' hg hvS hV6 hV8
                  refine tlH 6 ?_ rfl (fun w' hS=>?_) hS ?_
                  rotate_left
                  ·
                    skip
                    go_simp
                    try with_reducible rfl
                  refine wpAnyL_late (i:=7) (by kernel_rfl) rfl (by kernel_rfl) (fun K hK=>?_)
                  clear hS
                  have f1:=hV7.free 1
                  have z0:=hV7.cell 0 rfl
                  have z1:=hV7.cell 1 rfl
                  go_simp
                  go_wp2_with fail
                  refine hK.out _ _ ?_
                  clear hK K f1 hV7 z0 z1
                  try simp only[List.getElem_toArray,List.getElem_cons_succ,List.getElem_cons_zero,Act.put,List.setIfInBounds_toArray,List.set_cons_zero,List.set_cons_succ]
                  refine wpAnyL_done (by kernel_rfl) ?_ _
                  rw[←hx.out]at hJ8
                  go_wp2
                  go_roundw
                  case rel=>exact⟨j+1,_,hj1.out,by go_num,hJ8⟩
                  case measure=>have:=hj1.out;simp[intOf];omega
              · have hji : ¬ (j : Int) < (B.rows.length : Int) := by omega
                obtain rfl:j=B.rows.length:=by omega
                rw[←hnext.out]at hJ
                go_wp2
                go_roundw
                case rel=>exact⟨i+1,_,hi1.out,by go_num,hJ⟩
                case measure=>have:=hi1.out;simp[intOf];omega
          · have hki : ¬ (i : Int) < (A.rows.length : Int) := by omega
            obtain rfl:i=A.rows.length:=by omega
            rw[rowsIJ_end]at hJ
            have hd:=Hd (hJ.out.done (vars:=B.vars.foldl addN A.vars) hB4.out (by rw[hn.out];exact own4.out) (by omega) hsz2.out hq24b.out (by omega))
            have z0:=hJ.out.tb.cell 0 rfl
            have z1:=hJ.out.tb.cell 1 rfl
            have hrb5:Blk w5 (w.heap.size+1+1) _ _:=(hJ.out.below.block _ hq24lt).trans hq24b.out
            have f1:=Blk.free hrb5
            have g0:=hrb5.cell 0 rfl
            have g1:=hrb5.cell 1 rfl
            obtain⟨ao9,cap9,hrv⟩:=hJ.out.slice
            subst hrv
            go_wp2
            refine bodyPost_ret (v:=.agg #[.slice an n cn,.slice ao9 (joinRows A B).length cap9]) (results_cell_row rfl _ _ (w.heap.size+1+1) 25 _ (0,0) _ rfl hd.out.1.eq Tryz.underlying25 rfl infoTab) rfl ⟨_,rfl,by rw[hz.out];exact hd.out.2⟩
theorem wt_sub(f:ByteArray→V):∀(C A:List ByteArray),C.Nodup→(∀x∈C,x∈A)→wtL (C.map f)≤wtL (A.map f)
 |[],A,_,_=>by simp[wtL]
 |x::C,A,hn,h=>by
  have hx:=h x (by simp)
  have hp:=(List.perm_cons_erase hx).map f
  rw[wtL_perm hp,List.map_cons,List.map_cons,wtL,wtL]
  rw[List.nodup_cons]at hn
  have:=wt_sub f C (A.erase x) hn.2 fun y hy=>(List.mem_erase_of_ne (fun e=>hn.1 (by rw[←e];exact hy))).2 (h y (by simp[hy]))
  omega
theorem cells_light{A C:List ByteArray}{r:List V}(hA:A.Nodup)(hC:C.Nodup)(hs:∀x∈C,x∈A)(hl:r.length=A.length)(h:wtL r≤1100000):(encL (cellsJ r (C.map fun x=>A.idxOf x))).length≤10000000:=by
 rw[cells_map]
 have h1:=encL_le9 (C.map (cellF A r))
 have h2:=wt_sub (cellF A r) C A hC hs
 rw[cells_row hA hl]at h2
 omega
theorem com_nodup{A B:List ByteArray}(hB:B.Nodup):(comN A B).Nodup:=by
 unfold comN
 exact hB.filter _
theorem rowsIJ_row(a b:Tab){i:Nat}(h:i<a.rows.length):rowsIJ a b (i+1) 0=rowsIJ a b i 0++b.rows.filterMap fun s=>if compat a.vars b.vars a.rows[i] s=true then some (joinR a.vars b.vars a.rows[i] s) else none:=by
 rw[rowsIJ_next a b h]
 unfold rowsIJ
 rw[List.take_length,List.take_zero,List.filterMap_nil,List.append_nil]
 have e:a.rows.getD i []=a.rows[i]:=by simp[h]
 rw[e]
 rfl
theorem JnW.more{wq w w1 W:World}{N:Nat}{names rv:Value}{L:List (List V)}{n0:Nat}{l:List (List V×Bool)}(h:JnW wq w N names rv L)(h1:Below w.heap.size w w1)
 (hJ:HashJ N wq.heap.size names (fun b=>wq.heap.size<b∧b<w.heap.size) L n0 w1 l W):∃rv2,JnW wq W N names rv2 (L++l.map (·.1)):=by
 obtain⟨rv2,g1,g2,g3,g4⟩:=hJ
 have h5:=h1.size
 have h6:=g3.size
 have h7:=h.below.size
 have h8:=h.tb.lt
 refine⟨rv2,below_spared h.below h1 g3 (fun b hb=>?_),g1,g2.mono fun b hb=>?_⟩
 ·rcases hb with hb|hb
  ·omega
  ·have:=hb.1;omega
 ·rcases hb with hb|hb
  ·exact⟨hb.1,by have:=hb.2;omega⟩
  ·exact⟨by have:=hb.1;omega,hb.2⟩
theorem jhash_any (N : Nat) (hN : N ≤ 1048576) (w : World) (hE : Env w) (va vb : Value) (A B : Tab) (hA : TabA w N va A) (hB : TabA w N vb B) (a1 : A.vars.length ≤ 100000) (a2 : A.rows.length ≤ 1048576) (b1 : B.vars.length ≤ 100000) (b2 : B.rows.length ≤ 1048575) (hN64 : 64 ≤ N) (hrs : A.rows.length * B.rows.length ≤ 1048576)
    (kA:∀r∈A.rows,wtL r≤1100000)(kB:∀r∈B.rows,wtL r≤1100000):
    Calls Tryz.prog 7 #[va,vb] w fun e w'=>∃v,e=.returned v∧TabO w w' N v (joinZ A B):=by
  obtain⟨vv,rv,rfl,hV,hR⟩:=hA.ex
  obtain⟨vv2,rv2,rfl,hV2,hR2⟩:=hB.ex
  obtain⟨av,cv,rfl,-⟩:=hV.form
  obtain⟨av2,cv2,rfl,-⟩:=hV2.form
  obtain⟨ar,cr,rfl,-,-⟩:=hR.form
  obtain⟨ar2,cr2,rfl,-,-⟩:=hR2.form
  have hal:Below w.heap.size w (((w.alloc (.cells #[.slice av A.vars.length cv,.slice ar A.rows.length cr] 25)).alloc (.cells #[.slice av2 B.vars.length cv2,.slice ar2 B.rows.length cr2] 25)).alloc (.cells #[.slice none 0 0,.slice none 0 0] 25)):=
    (((Below.refl _ _).alloc (Nat.le_refl _) _).alloc (by rw[World.size_alloc];omega) _).alloc (by rw[World.size_alloc,World.size_alloc];omega) _
  have hq0:=((Blk.new w #[.slice av A.vars.length cv,.slice ar A.rows.length cr] 25).alloc (.cells #[.slice av2 B.vars.length cv2,.slice ar2 B.rows.length cr2] 25)).alloc (.cells #[.slice none 0 0,.slice none 0 0] 25)
  have hq1:=(Blk.new (w.alloc (.cells #[.slice av A.vars.length cv,.slice ar A.rows.length cr] 25)) #[.slice av2 B.vars.length cv2,.slice ar2 B.rows.length cr2] 25).alloc (.cells #[.slice none 0 0,.slice none 0 0] 25)
  have hq2:=Blk.new ((w.alloc (.cells #[.slice av A.vars.length cv,.slice ar A.rows.length cr] 25)).alloc (.cells #[.slice av2 B.vars.length cv2,.slice ar2 B.rows.length cr2] 25)) #[.slice none 0 0,.slice none 0 0] 25
  rw[World.size_alloc]at hq1 hq2
  rw[World.size_alloc]at hq2
  obtain⟨w1,hw1⟩:∃w1,(((w.alloc (.cells #[.slice av A.vars.length cv,.slice ar A.rows.length cr] 25)).alloc (.cells #[.slice av2 B.vars.length cv2,.slice ar2 B.rows.length cr2] 25)).alloc (.cells #[.slice none 0 0,.slice none 0 0] 25))=w1:=⟨_,rfl⟩
  have hs1:w1.heap.size=w.heap.size+3:=by rw[←hw1];simp
  rw[hw1]at hal hq0 hq1 hq2
  have hA1:=hA.stay hal
  have hB1:=hB.stay hal
  have hE1:=hE.below hal
  have hR1:=hR.stay hal
  have hR21:=hR2.stay hal
  have hsA:=Hd hV.size
  have hsB:=Hd hV2.size
  have cT:=jtogether_any N hN w1 hE1 _ _ A B hA1 hB1 a1 a2 b1 (by omega)
  have x0:=hq0.cell 0 rfl
  have x1:=hq0.cell 1 rfl
  have y0:=hq1.cell 0 rfl
  have y1:=hq1.cell 1 rfl
  obtain⟨ok,hok⟩:∃ok,jokZ A B=ok:=⟨_,rfl⟩
  rw[hok]at cT
  replace hok:=Hd hok
  replace cT:=Hd cT
  replace hal:=Hd hal
  replace hq0:=Hd hq0
  replace hq1:=Hd hq1
  replace hq2:=Hd hq2
  replace hR1:=Hd hR1
  replace hR21:=Hd hR21
  replace hw1:=Hd hw1
  replace hs1:=Hd hs1
  replace hB1:=Hd hB1
  replace hE1:=Hd hE1
  replace kA:=Hd kA
  replace kB:=Hd kB
  clear hA hB hA1 hV hV2 hR hR2 hE
  go_enter Tryz.func7,Tryz.ntmps7
  go_wp2_with fail
  rw[hw1.out]
  refine cT.out.mono ?_
  rintro e w2 ⟨v,rfl,vn,vp,vs,rfl,hb2,hnm,hpl,hpr⟩
  clear cT
  obtain⟨an,cn,rfl⟩:=own_form4x hnm
  obtain⟨ap,cp,rfl⟩:=own_form4x hpl
  obtain⟨asl,csl,rfl⟩:=own_form4x hpr
  have hbA:=hb2.alloc hb2.size (.cells #[.slice an (B.vars.foldl addN A.vars).length cn,.slice ap (atN A.vars B.vars).length cp,.slice asl (shK A.vars B.vars B.vars.length).length csl] 55)
  replace x0:=sB hbA x0
  replace x1:=sB hbA x1
  replace y0:=sB hbA y0
  replace y1:=sB hbA y1
  have hq24:Blk (w2.alloc (.cells #[.slice an (B.vars.foldl addN A.vars).length cn,.slice ap (atN A.vars B.vars).length cp,.slice asl (shK A.vars B.vars B.vars.length).length csl] 55)) (w.heap.size+1+1) #[.slice none 0 0,.slice none 0 0] 25:=(hbA.block _ hq2.out.lt).trans hq2.out
  have hp4:=Hd (Blk.new w2 #[.slice an (B.vars.foldl addN A.vars).length cn,.slice ap (atN A.vars B.vars).length cp,.slice asl (shK A.vars B.vars B.vars.length).length csl] 55)
  replace hbA:=Hd hbA
  replace hnm:=Hd hnm
  replace hpl:=Hd hpl
  replace hpr:=Hd hpr
  have hb2s:=hb2.size
  replace hb2:=Hd hb2
  cases ok with
  | false =>
    have hz:=jok_no hok.out
    replace hz:=Hd hz
    have f2:=Blk.free hq24
    have z0:=hq24.cell 0 rfl
    have z1:=hq24.cell 1 rfl
    clear x0 x1 y0 y1
    go_wp2
    have q0:=hq24.set 0 (.slice none 0 0)
    have hfin:=q0.set 1 (.slice none 0 0)
    have hbf:=((hal.out.trans (hbA.out.mono hal.out.size)).setCell (p:=⟨w.heap.size+1+1,0,none⟩) (by simp;omega) (.slice none 0 0)).setCell (p:=⟨w.heap.size+1+1,1,none⟩) (by simp;omega) (.slice none 0 0)
    refine bodyPost_ret (v:=.agg #[.slice none 0 0,.slice none 0 0]) (results_cell_row rfl _ _ (w.heap.size+1+1) 25 _ (0,0) _ rfl hfin.eq Tryz.underlying25 rfl infoTab) rfl ⟨_,rfl,?_⟩
    rw[hz.out]
    exact tabO_zero hbf
  |true=>
        obtain⟨hmA,hmB,h64⟩:=jok_yes hok.out
        have own4:Hid ((w2.alloc (.cells #[.slice an (B.vars.foldl addN A.vars).length cn,.slice ap (atN A.vars B.vars).length cp,.slice asl (shK A.vars B.vars B.vars.length).length csl] 55)).ownsRow w.heap.size 9 1 (.slice an (B.vars.foldl addN A.vars).length cn) (B.vars.foldl addN A.vars).length (textsV (B.vars.foldl addN A.vars))):=Hd (own_low4 (hnm.out.alloc (.cells #[.slice an (B.vars.foldl addN A.vars).length cn,.slice ap (atN A.vars B.vars).length cp,.slice asl (shK A.vars B.vars B.vars.length).length csl] 55)) (by have:=hs1.out;omega))
        have pl4:=Hd (own_row (by rw[numsN_length];exact hpl.out.alloc (.cells #[.slice an (B.vars.foldl addN A.vars).length cn,.slice ap (atN A.vars B.vars).length cp,.slice asl (shK A.vars B.vars B.vars.length).length csl] 55)):RowA (w2.alloc (.cells #[.slice an (B.vars.foldl addN A.vars).length cn,.slice ap (atN A.vars B.vars).length cp,.slice asl (shK A.vars B.vars B.vars.length).length csl] 55)) (w2.alloc (.cells #[.slice an (B.vars.foldl addN A.vars).length cn,.slice ap (atN A.vars B.vars).length cp,.slice asl (shK A.vars B.vars B.vars.length).length csl] 55)).heap.size (.slice ap (atN A.vars B.vars).length cp) (numsN (atN A.vars B.vars)))
        have pr4:=Hd (pair_of (hpr.out.alloc (.cells #[.slice an (B.vars.foldl addN A.vars).length cn,.slice ap (atN A.vars B.vars).length cp,.slice asl (shK A.vars B.vars B.vars.length).length csl] 55)))
        have hR4:=Hd (hR1.out.stay hbA.out)
        have hR24:=Hd (hR21.out.stay hbA.out)
        have hB24:=Hd (hB1.out.stay hbA.out)
        have hE4:=Hd (hE1.out.below hbA.out)
        have hB4:=Hd (hal.out.trans (hbA.out.mono hal.out.size))
        obtain⟨hnA,hrA⟩:=may_rows hmA
        obtain⟨hnB,hrB⟩:=may_rows hmB
        obtain⟨-,-,hdA⟩:=names_parts hnA
        obtain⟨hB9,-,hdB⟩:=names_parts hnB
        have hz:joinZ A B=⟨B.vars.foldl addN A.vars,joinRows A B⟩:=by unfold joinZ joinT;rw[hmA,hmB,if_pos h64];simp
        replace hz:=Hd hz
        have hsz:∀s∈B.vars.foldl addN A.vars,s.size≤maxLen:=fun s hs=>by
          rcases(mem_foldN B.vars A.vars).1 hs with h|h
          · exact hsA.out s h
          · exact hsB.out s h
        have kbB:∀r∈B.rows,(encL (cellsJ r ((comN A.vars B.vars).map fun x=>B.vars.idxOf x))).length≤10000000:=fun r hr=>cells_light hdB (com_nodup hdB) (fun x hx=>(mem_com.1 hx).1) (row_len (hrB r hr)) (kB.out r hr)
        have kaA:∀r∈A.rows,(encL (cellsJ r ((comN A.vars B.vars).map fun x=>A.vars.idxOf x))).length≤10000000:=fun r hr=>cells_light hdA (com_nodup hdB) (fun x hx=>(mem_com.1 hx).2) (row_len (hrA r hr)) (kA.out r hr)
        replace kbB:=Hd kbB
        replace kaA:=Hd kaA
        clear kA kB hB1 hE1
        go_upto_region 4 with fail
        obtain⟨pj,hpj⟩:∃pj,w2.heap.size=pj:=⟨_,rfl⟩
        rw[hpj]at hp4
        try rw[hpj]
        replace hpj:=Hd hpj
        generalize hw4:w2.alloc (.cells #[.slice an (B.vars.foldl addN A.vars).length cn,.slice ap (atN A.vars B.vars).length cp,.slice asl (shK A.vars B.vars B.vars.length).length csl] 55)=w4 at *
        obtain⟨n,hn⟩:∃n,(B.vars.foldl addN A.vars).length=n:=⟨_,rfl⟩
        have hn64:n≤64:=by omega
        obtain⟨np,hnp⟩:∃np,(atN A.vars B.vars).length=np:=⟨_,rfl⟩
        have cH:=hashed_any N hN w4 hE4.out _ (.slice asl (shK A.vars B.vars B.vars.length).length csl) A B an ap (B.vars.foldl addN A.vars).length cn (atN A.vars B.vars).length cp hB24.out pr4.out hmB b2 kbB.out
        rw[hn,hnp]at cH hp4 ⊢
        replace hn:=Hd hn
        replace hnp:=Hd hnp
        replace cH:=Hd cH
        replace hw4:=Hd hw4
        have hq24b:=Hd hq24
        have hs1b:=hs1.out
        have hdA2:=Hd hdA
        have hdB2:=Hd hdB
        have hrA2:=Hd hrA
        have hrB2:=Hd hrB
        have hsz2:=Hd hsz
        have hp40:=hp4.out.cell 0 rfl
        have hp41:=hp4.out.cell 1 rfl
        have hp42:=hp4.out.cell 2 rfl
        have hq24lt:=hq24.lt
        clear hdA hdB hrA hrB hsz hnA hnB hq24 hal hbA hnm hpl hpr hq0 hq1 hq2 hb2 hR1 hR21 hw1 hs1 hB24
        go_wp2_with fail
        with_reducible refine cH.out.mono ?_
        rintro e w5 ⟨w0,b0,hx,nn,f,vl,vv5,rv5,rfl,hve,hb5,k1,k2,k3,hH⟩
        injection hve with hve
        have hve2:=Array.mk.inj hve
        simp only[List.cons.injEq,and_true]at hve2
        obtain⟨rfl,rfl⟩:=hve2
        clear hve cH
        have hst5:=stay_of_below hb5
        have hB5:=Hd (hB4.out.trans (hb5.mono hB4.out.size))
        have own5:=Hd (own_keep own4.out hb5)
        have pl5:=Hd ((pl4.out.stay hst5).mono hb5.size)
        have pr5:=Hd (PairR.stay pr4.out hb5)
        have hR5:=Hd (hR4.out.stay hb5)
        have hR25:=Hd (hR24.out.stay hb5)
        have hE5:=Hd (hE4.out.below hb5)
        have hq25b:Hid (Blk w5 (w.heap.size+1+1) #[.slice none 0 0,.slice none 0 0] 25):=Hd ((hb5.block _ hq24lt).trans hq24b.out)
        replace hp40:=hst5.cell hp40
        replace x1:=hst5.cell x1
        have hH5:=Hd hH
        have hs5:=Hd hb5.size
        have hRA:Hid (∀j (hj:j<A.rows.length),∃b off a c,ar=some ⟨b,off,none⟩∧b<w5.heap.size∧w5.cell? ⟨b,off+j,none⟩=some (.slice a A.rows[j].length c)∧LA w5 N (.slice a A.rows[j].length c) A.rows[j]):=Hd (by
          obtain⟨_,_,e,-,h⟩:=hR5.out.form
          injection e with e1 _ _
          subst e1
          exact h)
        have hq25lt:=Hd hq25b.out.lt
        clear hst5 hb5 hH own4 pl4 pr4 hR4 hR24 hE4 hB4 hq24b hq24lt k1 k2 k3 hp4 hp41 hp42
        obtain⟨wb,rfl⟩:∃wb:World,wb=w5:=⟨_,rfl⟩
        have hJ0:=Hd (JnW.start wb N (.slice an n cn))
        rw[←rowsIJ_zero A B]at hJ0
        have own5n:=own5.out
        rw[hn.out]at own5n
        replace own5n:=Hd own5n
        have hH5n:=hH5.out
        have pl5n:=pl5.out
        rw[hnp.out]at pl5n
        replace hH5n:=Hd hH5n
        replace pl5n:=Hd pl5n
        have hnh:=hn
        have hnph:=hnp
        clear hn hnp own5 hH5 pl5 hR5
        have hJb:=hJ0.out.below
        replace x1:=sB hJb x1
        clear hJb
        go_wp2
        go_loopw [29] (fun i wr=>∃(k:Nat) (rv:Value),k≤A.rows.length∧i=.int .i64 (k:Int)∧Hid (JnW wb wr N (.slice an n cn) rv (rowsIJ A B k 0))) (fun i _=>A.rows.length-(intOf i).toNat)
        case atStart=>exact⟨0,_,Nat.zero_le _,rfl,hJ0⟩
        case round=>
          clear hJ0 x1 hp40
          obtain⟨i,rv,hi,rfl,hJ⟩:=hrel
          obtain⟨w6,rfl⟩:∃w6:World,w6=wr:=⟨_,rfl⟩
          by_cases hlt:i<A.rows.length
          · have hki : (i : Int) < (A.rows.length : Int) := by omega
            have hi1:=Hd (show i+1≤A.rows.length from hlt)
            obtain⟨b1,o1,a1,c1,rfl,hb1,hcell,hla1⟩:=hRA.out i hlt
            replace hcell:=sB hJ.out.below hcell
            have hnext:=rowsIJ_row A B hlt
            replace hnext:=Hd hnext
            have hrw:=hrA2.out _ (List.getElem_mem hlt)
            have kr:=kaA.out _ (List.getElem_mem hlt)
            have hlen:(rowsIJ A B i 0).length+B.rows.length≤1048576:=by
              have h1:=rowsIJ_len A B i 0 hlt (Nat.zero_le _)
              have h2:=Nat.mul_le_mul_right B.rows.length (show i+1≤A.rows.length from hlt)
              rw[Nat.succ_mul]at h2
              omega
            have hD:=hash_do N hN n w6 wb.heap.size (.slice an n cn) rv (fun b=>wb.heap.size<b∧b<w6.heap.size) (rowsIJ A B i 0) B.rows.length hlen hJ.out.tb hJ.out.rows (fun b hb=>hb.2) (fun hb=>by have:=hb.1;omega) known_hash1
            have cW:=with_any N hN w0 wb w6 hE5.out hJ.out.below b0 hx nn f A.vars B.vars B.rows _ _ an ap ar2 n cn np cp cr2 _ vl _ (A.rows[i]'hlt) hdA2.out hdB2.out hnh.out (by omega) hB9 rfl hH5n.out pl5n.out pr5.out hR25.out hrB2.out b2 hla1 hrw kr _ _ (fun b=>b=wb.heap.size∨(wb.heap.size<b∧b<w6.heap.size)) _ _ (fun b hb=>by have:=hJ.out.tb.lt;rcases hb with hb|hb<;>omega) hD
            rw[near_parts]at cW
            replace cW:=Hd cW
            clear hD hrw kr hlen hla1
            go_wp2_with fail
            refine cW.out.mono ?_
            rintro e w7 ⟨rfl,w8,hb8,hJU⟩
            rcases hJU with hJU|⟨_,_,_,_,hF⟩
            case inr=>exact hF.elim
            obtain⟨rv2,hJ2⟩:=hJ.out.more hb8 hJU
            rw[parts_rows,←hnext.out]at hJ2
            replace hJ2:=Hd hJ2
            clear hJU hb8 cW hcell hJ
            go_wp2
            go_roundw
            case rel=>exact⟨i+1,_,hi1.out,by go_num,hJ2⟩
            case measure=>have:=hi1.out;simp[intOf];omega
          · have hki : ¬ (i : Int) < (A.rows.length : Int) := by omega
            obtain rfl:i=A.rows.length:=by omega
            rw[rowsIJ_end]at hJ
            have hd:=Hd (hJ.out.done (vars:=B.vars.foldl addN A.vars) hB5.out (by rw[hnh.out];exact own5n.out) (by have:=hs5.out;omega) hsz2.out hq25b.out (by omega))
            have z0:=hJ.out.tb.cell 0 rfl
            have z1:=hJ.out.tb.cell 1 rfl
            have hrb5:Blk w6 (w.heap.size+1+1) _ _:=(hJ.out.below.block _ hq25lt.out).trans hq25b.out
            have f1:=Blk.free hrb5
            have g0:=hrb5.cell 0 rfl
            have g1:=hrb5.cell 1 rfl
            obtain⟨ao9,cap9,hrv⟩:=hJ.out.slice
            subst hrv
            go_wp2
            refine bodyPost_ret (v:=.agg #[.slice an n cn,.slice ao9 (joinRows A B).length cap9]) (results_cell_row rfl _ _ (w.heap.size+1+1) 25 _ (0,0) _ rfl hd.out.1.eq Tryz.underlying25 rfl infoTab) rfl ⟨_,rfl,by rw[hz.out];exact hd.out.2⟩
open hyp (RowA TextsA CellsStay stay_of_below textsV textsV_length own_row OW)
theorem jsome_any(N:Nat)(hN:N≤1048576)(w:World)(hE:Env w)(va vb:Value)(A B:Tab)(has bd:Bool)(hA:TabA w N va A)(hB:TabA w N vb B)(a1:A.vars.length≤100000)(a2:A.rows.length≤1048575)(b1:B.vars.length≤100000)(b2:B.rows.length≤1048575)(hN64:128≤N)
 (kA:∀r∈A.rows,wtL r≤1100000)(kB:∀r∈B.rows,wtL r≤1100000):
 Calls Tryz.prog 39 #[va,vb,.bool has,.bool bd] w fun e w'=>∃v,e=.returned v∧TabO w w' N v (someZ A B has bd):=by
 obtain⟨vv,rv,rfl,hV,hR⟩:=hA.ex
 obtain⟨vv2,rv2,rfl,hV2,hR2⟩:=hB.ex
 obtain⟨av,cv,rfl,-⟩:=hV.form
 obtain⟨av2,cv2,rfl,-⟩:=hV2.form
 obtain⟨ar,cr,rfl,-,hrc⟩:=hR.form
 obtain⟨ar2,cr2,rfl,-,-⟩:=hR2.form
 have hal:Below w.heap.size w ((((w.alloc (.cells #[.slice av A.vars.length cv,.slice ar A.rows.length cr] 25)).alloc (.cells #[.slice av2 B.vars.length cv2,.slice ar2 B.rows.length cr2] 25)).alloc (.cells #[.bool bd] 4)).alloc (.cells #[.slice none 0 0,.slice none 0 0] 25)):=
  ((((Below.refl _ _).alloc (Nat.le_refl _) _).alloc (by rw[World.size_alloc];omega) _).alloc (by rw[World.size_alloc,World.size_alloc];omega) _).alloc (by rw[World.size_alloc,World.size_alloc,World.size_alloc];omega) _
 have hq0:=(((Blk.new w #[.slice av A.vars.length cv,.slice ar A.rows.length cr] 25).alloc (.cells #[.slice av2 B.vars.length cv2,.slice ar2 B.rows.length cr2] 25)).alloc (.cells #[.bool bd] 4)).alloc (.cells #[.slice none 0 0,.slice none 0 0] 25)
 have hq1:=((Blk.new (w.alloc (.cells #[.slice av A.vars.length cv,.slice ar A.rows.length cr] 25)) #[.slice av2 B.vars.length cv2,.slice ar2 B.rows.length cr2] 25).alloc (.cells #[.bool bd] 4)).alloc (.cells #[.slice none 0 0,.slice none 0 0] 25)
 have hqd:=(Blk.new ((w.alloc (.cells #[.slice av A.vars.length cv,.slice ar A.rows.length cr] 25)).alloc (.cells #[.slice av2 B.vars.length cv2,.slice ar2 B.rows.length cr2] 25)) #[.bool bd] 4).alloc (.cells #[.slice none 0 0,.slice none 0 0] 25)
 have hq2:=Blk.new (((w.alloc (.cells #[.slice av A.vars.length cv,.slice ar A.rows.length cr] 25)).alloc (.cells #[.slice av2 B.vars.length cv2,.slice ar2 B.rows.length cr2] 25)).alloc (.cells #[.bool bd] 4)) #[.slice none 0 0,.slice none 0 0] 25
 rw[World.size_alloc]at hq1 hq2 hqd
 rw[World.size_alloc]at hq2 hqd
 rw[World.size_alloc]at hq2
 obtain⟨w1,hw1⟩:∃w1,((((w.alloc (.cells #[.slice av A.vars.length cv,.slice ar A.rows.length cr] 25)).alloc (.cells #[.slice av2 B.vars.length cv2,.slice ar2 B.rows.length cr2] 25)).alloc (.cells #[.bool bd] 4)).alloc (.cells #[.slice none 0 0,.slice none 0 0] 25))=w1:=⟨_,rfl⟩
 have hs1:w1.heap.size=w.heap.size+4:=by rw[←hw1];simp
 rw[hw1]at hal hq0 hq1 hq2 hqd
 have hE1:=hE.below hal
 have hA1:=hA.stay hal
 have hB1:=hB.stay hal
 have hR21:=Hd (hR2.stay hal)
 have hsA:=Hd hV.size
 have cT:=Hd (jtogether_any N hN w1 hE1 _ _ A B hA1 hB1 a1 (by omega) b1 (by omega))
 have cA:=Hd (fun V (h:Below w1.heap.size w1 V)=>checkT_any N (by omega) V (hE1.below h) _ A (hA1.stay h) (by omega) (by omega))
 have cB:=Hd (fun V (h:Below w1.heap.size w1 V)=>checkT_any N (by omega) V (hE1.below h) _ B (hB1.stay h) (by omega) (by omega))
 have cC:=Hd (fun V (h:Below w1.heap.size w1 V)=>cloneT_any V _ A.vars (by omega) (TextsA.below (TextsA.below hV hal) h))
 have x0:=hq0.cell 0 rfl
 have x1:=hq0.cell 1 rfl
 have y0:=hq1.cell 0 rfl
 have y1:=hq1.cell 1 rfl
 replace hrc:=Hd hrc
 replace hal:=Hd hal
 replace hq2:=Hd hq2
 replace hqd:=Hd hqd
 replace hw1:=Hd hw1
 replace hs1:=Hd hs1
 replace hE1:=Hd hE1
 replace hB1:=Hd hB1
 replace kA:=Hd kA
 replace kB:=Hd kB
 clear hA hB hA1 hV hV2 hR hR2 hE hq0 hq1
 go_enter Tryz.func39,Tryz.ntmps39
 go_wp2_with fail
 rw[hw1.out]
 refine cT.out.mono ?_
 rintro e w2 ⟨v,rfl,vn,vp,vs,rfl,hb2,hnm,hpl,hpr⟩
 clear cT
 obtain⟨an,cn,rfl⟩:=own_form4x hnm
 obtain⟨ap,cp,rfl⟩:=own_form4x hpl
 obtain⟨asl,csl,rfl⟩:=own_form4x hpr
 have hbA:=hb2.alloc hb2.size (.cells #[.slice an (B.vars.foldl addN A.vars).length cn,.slice ap (atN A.vars B.vars).length cp,.slice asl (shK A.vars B.vars B.vars.length).length csl] 55)
 replace x0:=sB hbA x0
 replace x1:=sB hbA x1
 replace y0:=sB hbA y0
 replace y1:=sB hbA y1
 have hq24:Hid (Blk (w2.alloc (.cells #[.slice an (B.vars.foldl addN A.vars).length cn,.slice ap (atN A.vars B.vars).length cp,.slice asl (shK A.vars B.vars B.vars.length).length csl] 55)) (w.heap.size+1+1+1) #[.slice none 0 0,.slice none 0 0] 25):=Hd ((hbA.block _ hq2.out.lt).trans hq2.out)
 have hqd4:Hid (Blk (w2.alloc (.cells #[.slice an (B.vars.foldl addN A.vars).length cn,.slice ap (atN A.vars B.vars).length cp,.slice asl (shK A.vars B.vars B.vars.length).length csl] 55)) (w.heap.size+1+1) #[.bool bd] 4):=Hd ((hbA.block _ hqd.out.lt).trans hqd.out)
 have hp4:=Hd (Blk.new w2 #[.slice an (B.vars.foldl addN A.vars).length cn,.slice ap (atN A.vars B.vars).length cp,.slice asl (shK A.vars B.vars B.vars.length).length csl] 55)
 have hpl4:=Hd (own_row (by rw[numsN_length];exact hpl.alloc (.cells #[.slice an (B.vars.foldl addN A.vars).length cn,.slice ap (atN A.vars B.vars).length cp,.slice asl (shK A.vars B.vars B.vars.length).length csl] 55)):RowA (w2.alloc (.cells #[.slice an (B.vars.foldl addN A.vars).length cn,.slice ap (atN A.vars B.vars).length cp,.slice asl (shK A.vars B.vars B.vars.length).length csl] 55)) (w2.alloc (.cells #[.slice an (B.vars.foldl addN A.vars).length cn,.slice ap (atN A.vars B.vars).length cp,.slice asl (shK A.vars B.vars B.vars.length).length csl] 55)).heap.size (.slice ap (atN A.vars B.vars).length cp) (numsN (atN A.vars B.vars)))
 have hpr4:=Hd (pair_of (hpr.alloc (.cells #[.slice an (B.vars.foldl addN A.vars).length cn,.slice ap (atN A.vars B.vars).length cp,.slice asl (shK A.vars B.vars B.vars.length).length csl] 55)))
 have hB4:=Hd (hal.out.trans (hbA.mono hal.out.size))
 replace hbA:=Hd hbA
 clear hnm hpl hpr hb2 hq2 hqd hw1 hal
 obtain⟨ok,hok⟩:∃ok,jokZ A B=ok:=⟨_,rfl⟩
 rw[hok]
 replace hok:=Hd hok
 have hbm:(mayT A=true∧mayT B=true)∨((mayT A=false∨(mayT A=true∧mayT B=false))∧ok=false):=by
  have h1:=hok.out
  cases ha:mayT A with
  |false=>
   refine .inr ⟨.inl rfl,?_⟩
   rw[←h1];unfold jokZ;rw[ha];simp
  | true =>
   cases hb:mayT B with
   |false=>
    refine .inr ⟨.inr ⟨rfl,rfl⟩,?_⟩
    rw[←h1];unfold jokZ;rw[ha,hb];simp
   |true=>exact .inl ⟨rfl,rfl⟩
 go_upto_region 2 with fail
 obtain⟨pj,hpj⟩:∃pj,w2.heap.size=pj:=⟨_,rfl⟩
 rw[hpj]at hp4
 try rw[hpj]
 replace hpj:=Hd hpj
 generalize w2.alloc (.cells #[.slice an (B.vars.foldl addN A.vars).length cn,.slice ap (atN A.vars B.vars).length cp,.slice asl (shK A.vars B.vars B.vars.length).length csl] 55)=w4 at *
 rcases hbm with⟨hmA,hmB⟩|⟨hno,rfl⟩
 case inr=>
  have hz:someZ A B has bd=⟨[],[]⟩:=by
   unfold someZ
   rcases hno with h|⟨h1,h2⟩
   ·rw[h];simp
   ·rw[h1,h2];simp
  replace hz:=Hd hz
  have cA4:=cA.out w4 hbA.out
  rcases hno with hA0|⟨hA0,hB0⟩
  ·rw[hA0]at cA4
   replace cA4:=Hd cA4
   go_wp2_with fail
   refine cA4.out.mono ?_
   rintro e w5 ⟨rfl,hb5⟩
   have hq25:Hid (Blk w5 (w.heap.size+1+1+1) #[.slice none 0 0,.slice none 0 0] 25):=Hd ((hb5.block _ hq24.out.lt).trans hq24.out)
   have hB5:=Hd (hB4.out.trans (hb5.mono hB4.out.size))
   clear hb5 cA4 x0 x1 y0 y1
   have hfin:=Hd ((hq25.out.set 0 (.slice none 0 0)).set 1 (.slice none 0 0))
   have hbf:=Hd ((hB5.out.setCell (p:=⟨w.heap.size+1+1+1,0,none⟩) (by simp;omega) (.slice none 0 0)).setCell (p:=⟨w.heap.size+1+1+1,1,none⟩) (by simp;omega) (.slice none 0 0))
   have f1:=Blk.free hq25.out
   have g0:=hq25.out.cell 0 rfl
   have g1:=hq25.out.cell 1 rfl
   go_wp2
   refine bodyPost_ret (v:=.agg #[.slice none 0 0,.slice none 0 0]) (results_cell_row rfl _ _ (w.heap.size+1+1+1) 25 _ (0,0) _ rfl hfin.out.eq Tryz.underlying25 rfl infoTab) rfl ⟨_,rfl,?_⟩
   rw[hz.out]
   exact tabO_zero hbf.out
  ·rw[hA0]at cA4
   replace cA4:=Hd cA4
   go_wp2_with fail
   refine cA4.out.mono ?_
   rintro e w5 ⟨rfl,hb5⟩
   have cB5:=cB.out w5 (hbA.out.trans (hb5.mono hbA.out.size))
   rw[hB0]at cB5
   replace cB5:=Hd cB5
   replace y0:=sB hb5 y0
   replace y1:=sB hb5 y1
   have hq25:Hid (Blk w5 (w.heap.size+1+1+1) #[.slice none 0 0,.slice none 0 0] 25):=Hd ((hb5.block _ hq24.out.lt).trans hq24.out)
   have hB5:=Hd (hB4.out.trans (hb5.mono hB4.out.size))
   clear hb5 cA4 x0 x1
   go_wp2_with fail
   refine cB5.out.mono ?_
   rintro e w6 ⟨rfl,hb6⟩
   have hq26:Hid (Blk w6 (w.heap.size+1+1+1) #[.slice none 0 0,.slice none 0 0] 25):=Hd ((hb6.block _ hq25.out.lt).trans hq25.out)
   have hB6:=Hd (hB5.out.trans (hb6.mono hB5.out.size))
   clear hb6 cB5 y0 y1
   have hfin:=Hd ((hq26.out.set 0 (.slice none 0 0)).set 1 (.slice none 0 0))
   have hbf:=Hd ((hB6.out.setCell (p:=⟨w.heap.size+1+1+1,0,none⟩) (by simp;omega) (.slice none 0 0)).setCell (p:=⟨w.heap.size+1+1+1,1,none⟩) (by simp;omega) (.slice none 0 0))
   have f1:=Blk.free hq26.out
   have g0:=hq26.out.cell 0 rfl
   have g1:=hq26.out.cell 1 rfl
   go_wp2
   refine bodyPost_ret (v:=.agg #[.slice none 0 0,.slice none 0 0]) (results_cell_row rfl _ _ (w.heap.size+1+1+1) 25 _ (0,0) _ rfl hfin.out.eq Tryz.underlying25 rfl infoTab) rfl ⟨_,rfl,?_⟩
   rw[hz.out]
   exact tabO_zero hbf.out
 case inl =>
  go_cut [32] (fun v wx=>v=.bool false∧Hid (Below w4.heap.size w4 wx))
  case first=>
   as_aux_lemma=>
    cases ok with
    |true=>
     go_wp2_with fail
     go_meet
     exact⟨rfl,Hd (Below.refl _ _)⟩
    |false=>
     have cA4:=cA.out w4 hbA.out
     rw[hmA]at cA4
     replace cA4:=Hd cA4
     go_wp2_with fail
     refine cA4.out.mono ?_
     rintro e w5 ⟨rfl,hb5⟩
     have cB5:=cB.out w5 (hbA.out.trans (hb5.mono hbA.out.size))
     rw[hmB]at cB5
     replace cB5:=Hd cB5
     replace y0:=sB hb5 y0
     replace y1:=sB hb5 y1
     clear cA4
     go_wp2_with fail
     refine cB5.out.mono ?_
     rintro e w6 ⟨rfl,hb6⟩
     have hb46:=Hd (hb5.trans (hb6.mono hb5.size))
     clear hb5 hb6 cB5
     go_wp2_with fail
     go_meet
     exact⟨rfl,hb46⟩
  obtain⟨w5,rfl⟩:∃w5:World,w5=wc:=⟨_,rfl⟩
  obtain⟨rfl,hb45h⟩:=hcut
  have hb45:=hb45h.out
  have hb15:=hbA.out.trans (hb45.mono hbA.out.size)
  have hst5:=stay_of_below hb45
  replace x0:=hst5.cell x0
  replace x1:=hst5.cell x1
  replace y0:=hst5.cell y0
  replace y1:=hst5.cell y1
  have hz:someZ A B has bd=⟨A.vars,someK A B has bd A.rows.length⟩:=by unfold someZ;rw[hmA,hmB,someK_all];rfl
  replace hz:=Hd hz
  obtain⟨hnA,hrA⟩:=may_rows hmA
  obtain⟨hnB,hrB⟩:=may_rows hmB
  obtain⟨hA9,-,hdA⟩:=names_parts hnA
  obtain⟨hB9,-,hdB⟩:=names_parts hnB
  have hfl:=foldN_len B.vars A.vars
  have kbB:∀r∈B.rows,(encL (cellsJ r ((comN A.vars B.vars).map fun x=>B.vars.idxOf x))).length≤10000000:=fun r hr=>cells_light hdB (com_nodup hdB) (fun x hx=>(mem_com.1 hx).1) (row_len (hrB r hr)) (kB.out r hr)
  have kaA:∀r∈A.rows,(encL (cellsJ r ((comN A.vars B.vars).map fun x=>A.vars.idxOf x))).length≤10000000:=fun r hr=>cells_light hdA (com_nodup hdB) (fun x hx=>(mem_com.1 hx).2) (row_len (hrA r hr)) (kA.out r hr)
  have pr5:=Hd (PairR.stay hpr4.out hb45)
  have pl5:=Hd ((hpl4.out.stay hst5).mono hb45.size)
  have hp5:=hp4.out.keep (Keep.ofBelow hb45) (by simp)
  have p0:=hp5.cell 0 rfl
  have p1:=hp5.cell 1 rfl
  have p2:=hp5.cell 2 rfl
  have hq25:Hid (Blk w5 (w.heap.size+1+1+1) #[.slice none 0 0,.slice none 0 0] 25):=Hd ((hb45.block _ hq24.out.lt).trans hq24.out)
  have hqd5:Hid (Blk w5 (w.heap.size+1+1) #[.bool bd] 4):=Hd ((hb45.block _ hqd4.out.lt).trans hqd4.out)
  have hB5:=Hd (hB4.out.trans (hb45.mono hB4.out.size))
  have cH:=Hd (hashed_any N hN w5 (hE1.out.below hb15) _ (.slice asl (shK A.vars B.vars B.vars.length).length csl) A B an ap (B.vars.foldl addN A.vars).length cn (atN A.vars B.vars).length cp (hB1.out.stay hb15) pr5.out hmB b2 kbB)
  have hb15h:=Hd hb15
  replace hdA:=Hd hdA
  replace hdB:=Hd hdB
  replace hrA:=Hd hrA
  replace hrB:=Hd hrB
  replace kaA:=Hd kaA
  replace hmA:=Hd hmA
  replace hmB:=Hd hmB
  clear hst5 hb45 hb15 hb45h hp5 hp4 hpl4 hpr4 hq24 hqd4 hB4 hnA hnB kbB kA kB cA cB hB1 hok hbA
  go_wp2_with fail
  refine cH.out.mono ?_
  rintro e w6 ⟨w0,b0,hx,nn,f,vl,vv5,rv5,rfl,hve,hb6,k1,k2,k3,hH⟩
  injection hve with hve
  have hve2:=Array.mk.inj hve
  simp only[List.cons.injEq,and_true]at hve2
  obtain⟨rfl,rfl⟩:=hve2
  clear hve cH
  replace x0:=sB hb6 x0
  replace x1:=sB hb6 x1
  have hb16:=hb15h.out.trans (hb6.mono hb15h.out.size)
  have cC6:=Hd (cC.out w6 hb16)
  have pl6:=Hd ((pl5.out.stay (stay_of_below hb6)).mono hb6.size)
  have pr6:=Hd (PairR.stay pr5.out hb6)
  have hq26:Hid (Blk w6 (w.heap.size+1+1+1) #[.slice none 0 0,.slice none 0 0] 25):=Hd ((hb6.block _ hq25.out.lt).trans hq25.out)
  have hqd6:Hid (Blk w6 (w.heap.size+1+1) #[.bool bd] 4):=Hd ((hb6.block _ hqd5.out.lt).trans hqd5.out)
  have hB6:=Hd (hB5.out.trans (hb6.mono hB5.out.size))
  have hb16h:=Hd hb16
  have hH6:=Hd hH
  clear hb6 hb16 hH k1 k2 k3 pl5 pr5 hq25 hqd5 hB5 cC y0 y1 p0 p1 p2 hb15h
  go_wp2_with fail
  refine cC6.out.mono ?_
  rintro e wb ⟨vx,rfl,hW⟩
  have hbW:=hW.below
  have ownX:Hid (wb.ownsRow w6.heap.size 9 1 vx A.vars.length (textsV A.vars)):=Hd (by have:=hW.own;rw[textsV_length]at this;exact this)
  obtain⟨ax,cx,rfl⟩:=own_form4x ownX.out
  replace x1:=sB hbW x1
  have pl7:=Hd ((pl6.out.stay (stay_of_below hbW)).mono hbW.size)
  have pr7:=Hd (PairR.stay pr6.out hbW)
  have hq2:Hid (Blk wb (w.heap.size+1+1+1) #[.slice none 0 0,.slice none 0 0] 25):=Hd ((hbW.block _ hq26.out.lt).trans hq26.out)
  have hqd:Hid (Blk wb (w.heap.size+1+1) #[.bool bd] 4):=Hd ((hbW.block _ hqd6.out.lt).trans hqd6.out)
  have hB:=Hd (hB6.out.trans (hbW.mono hB6.out.size))
  have hs6:=Hd hB6.out.size
  have hb1b:=hb16h.out.trans (hbW.mono hb16h.out.size)
  have hRb:=Hd (hR21.out.stay hb1b)
  have hEb:=Hd (hE1.out.below hb1b)
  have hHb:=Hd (hH6.out.stay hbW)
  have hJ0:=Hd (JnW.start wb N (.slice ax A.vars.length cx))
  have hq2lt:=Hd hq2.out.lt
  have hqdlt:=Hd hqd.out.lt
  rw[←someK_zero A B has bd]at hJ0
  replace x1:=sB hJ0.out.below x1
  clear cC6 hW hbW hB6 hq26 hqd6 pl6 pr6 hb16h hR21 hE1 hH6 x0 hb1b
  go_wp2
  go_loopw [44] (fun i wr=>∃(k:Nat) (rv:Value),k≤A.rows.length∧i=.int .i64 (k:Int)∧Hid (JnW wb wr N (.slice ax A.vars.length cx) rv (someK A B has bd k))) (fun i _=>A.rows.length-(intOf i).toNat)
  case atStart=>exact⟨0,_,Nat.zero_le _,rfl,hJ0⟩
  case round =>
   clear hJ0 x1
   obtain⟨i,rv,hi,rfl,hJ⟩:=hrel
   obtain⟨w7,rfl⟩:∃w7:World,w7=wr:=⟨_,rfl⟩
   by_cases hlt:i<A.rows.length
   ·have hki:(i:Int)<(A.rows.length:Int):=by omega
    have hi1:=Hd (show i+1≤A.rows.length from hlt)
    have hwb7:=hB.out.trans (hJ.out.below.mono hB.out.size)
    obtain⟨g1,o1,a3,c3,rfl,hg1,hcell,hla⟩:=hrc.out i hlt
    replace hcell:=sB hwb7 hcell
    have hlab:=hla.stay hB.out
    replace hla:=hla.stay hwb7
    have hrw:=hrA.out _ (List.getElem_mem hlt)
    have kr:=kaA.out _ (List.getElem_mem hlt)
    have hyes:=Hd (fun h=>someK_yes (a:=A) (b:=B) (has:=has) (bd:=bd) hlt h)
    have hnot:=Hd (fun h=>someK_no (a:=A) (b:=B) (has:=has) (bd:=bd) hlt h)
    have hlen:(someK A B has bd i).length+1≤1048576:=by have:=someK_len A B has bd i hi;omega
    have hal8:Below w7.heap.size w7 (w7.alloc (.cells #[.bool false] 4)):=(Below.refl _ _).alloc (Nat.le_refl _) _
    have hfb:=Blk.new w7 #[.bool false] 4
    have hbb8:Below wb.heap.size wb (w7.alloc (.cells #[.bool false] 4)):=hJ.out.below.trans (hal8.mono hJ.out.below.size)
    have hbd8:Blk (w7.alloc (.cells #[.bool false] 4)) (w.heap.size+1+1) #[.bool bd] 4:=(hbb8.block _ hqdlt.out).trans hqd.out
    have hs8:=World.size_alloc w7 (.cells #[.bool false] 4)
    have hwb0:=hJ.out.below.size
    have hD:=some_do N (B.vars.foldl addN A.vars).length B.rows.length _ (w.heap.size+1+1) w7.heap.size bd (by have:=hqdlt.out;omega) hbd8 hfb known_some1
    have cW:=with_any N hN w0 wb _ hEb.out hbb8 b0 hx nn f A.vars B.vars B.rows _ _ an ap ar2 _ cn _ cp cr2 _ vl _ (A.rows[i]'hlt) hdA.out hdB.out rfl (by omega) hB9 rfl hHb.out pl7.out pr7.out hRb.out hrB.out b2 hlab hrw kr _ _ (fun b=>b=w7.heap.size) _ _ (fun b hb=>by rw[hs8];omega) hD
    rw[near_parts,parts_all]at cW
    replace cW:=Hd cW
    have hal8h:=Hd hal8
    replace hla:=Hd hla
    replace hlen:=Hd hlen
    clear hD hrw kr hal8 hfb hbb8 hbd8 hs8 hwb7 hwb0 hg1
    go_wp2_with fail
    refine cW.out.mono ?_
    rintro e wv ⟨rfl,w8,hb8,hJU⟩
    have hun:∃fd,SomeJ (w.heap.size+1+1) w7.heap.size bd fd w8 wv∧foundB A.vars B.vars bd B.rows (A.rows[i]'hlt)=fd:=by
     rw[found_parts]
     rcases hJU with⟨h1,h2⟩|⟨l1,x,l2,hl,h1,p,hp,h2⟩
     ·refine⟨false,h1,?_⟩
      rw[List.any_eq_false]
      intro p hp
      rw[h2 p hp]
      simp
     ·refine⟨true,h1,List.any_eq_true.2 ⟨p,?_,h2⟩⟩
      rw[hl]
      rcases List.mem_append.1 hp with hp|hp
      ·exact List.mem_append_left _ hp
      ·rw[List.mem_singleton]at hp
       subst hp
       simp
    obtain⟨fd,⟨hS1,hS2,hS3⟩,hfd⟩:=hun
    have hb7v:=below_spared hal8h.out hb8 hS3 (fun b hb=>by omega)
    obtain⟨q0,hq⟩:∃q0,w7.heap.size=q0:=⟨_,rfl⟩
    have hJ7:=hJ
    clear hJ
    have hJ:=Hd (hJ7.out.stay hb7v)
    have hM0:=hJ7.out.rows.stay (fun b hS hlt=>hb7v.block b hlt)
    have hq0:=hb7v.size
    have hlaw:=hla.out.stay hb7v
    have hS2c:=hS2.cell 0 rfl
    rw[hq]at hM0 hq0 hS2c
    try rw[hq]
    replace hM0:=Hd hM0
    clear hla
    have hla:=Hd hlaw
    clear hlaw hJU hb8 hS1 hS2 hS3 hb7v hJ7 cW hal8h
    obtain⟨bq,hbq⟩:∃bq,(fd==has)=bq:=⟨_,rfl⟩
    have hup:Hid (bq=true→someK A B has bd (i+1)=someK A B has bd i++[A.rows[i]'hlt]):=Hd fun h=>hyes.out (by rw[hfd];rw[h]at hbq;simpa using hbq)
    have hdn:Hid (bq=false→someK A B has bd (i+1)=someK A B has bd i):=Hd fun h=>hnot.out (by rw[hfd];rw[h]at hbq;simpa using hbq)
    replace hfd:=Hd hfd
    clear hyes hnot
    generalize someK A B has bd i=L1 at *
    generalize (A.rows[i]'hlt)=x at *
    cases bq with
    |false=>
     have hx:=hdn.out rfl
     rw[←hx]at hJ
     clear hx hup hdn hM0 hla hcell
     go_wp2
     go_roundw
     case rel=>exact⟨i+1,_,hi1.out,by go_num,hJ⟩
     case measure=>have:=hi1.out;simp[intOf];omega
    | true =>
     have hx:=Hd (hup.out rfl)
     replace hlen:=hlen.out
     replace hq:=Hd hq
     clear hup hdn hcell
     go_upto_region 12 with fail
     have hal:Below wv.heap.size wv wv.drew:=below_drewN (Below.refl _ _) 1
     have hJV:=hJ.out.stay hal
     have hMV:=hM0.out.stay (fun b hS hlt=>hal.block b hlt)
     have hlaV:=hla.out.stay hal
     have htlt:=hJ.out.tb.lt
     have hwV:wv.drew.heap.size=wv.heap.size:=rfl
     have hS0:Blk wv.drew wb.heap.size #[.slice ax A.vars.length cx,rv] 25∧∀b,q0≤b→b<wv.heap.size→wv.drew.heap[b]? = wv.heap[b]?:=⟨hJV.tb,fun _ _ _=>rfl⟩
     refine wp_region_late [7] (S:=fun V=>Blk V wb.heap.size #[.slice ax A.vars.length cx,rv] 25∧∀b,q0≤b→b<wv.heap.size→V.heap[b]? = wv.heap[b]?) (by kernel_rfl) hS0 (fun hS=>?_)
     have hV:=hS0
     clear hS0 hal hJ hla hM0
     generalize wv.drew=V0 at *
     have hcall:=Hd (jrow_any N (by omega) V0 _ _ hlaV)
     refine tlH 0 ?_ rfl (fun w' hS=>?_) hS ?_
     rotate_left
     ·
      skip
      go_simp
      try with_reducible rfl
     refine tlH 1 ?_ rfl (fun w' hS=>?_) hS ?_
     rotate_left
     ·
      have z0:=hS.1.cell 0 rfl;have z1:=hS.1.cell 1 rfl
      go_simp
      try with_reducible rfl
     refine tlH 2 ?_ rfl (fun w' hS=>?_) hS ?_
     rotate_left
     ·
      skip
      go_simp
      try with_reducible rfl
     refine wpAnyL_ready (i:=3) (by kernel_rfl) rfl (fun K hK=>?_)
     clear hS
     go_simp
     refine(hcall.out).mono ?_
     rintro e w5 ⟨a9,c9,rfl,hb5,hl5⟩
     go_wp2_with fail
     refine hKo hK (⟨(hb5.block _ hV.1.lt).trans hV.1,fun b h1 h2=>(hb5.block b (by omega)).trans (hV.2 b h1 h2)⟩) (fun hS=>?_)
     clear hK K
     have hJ5:=hJV.stay hb5
     have hM5:=hMV.stay (fun b hS hlt=>hb5.block b hlt)
     have hs5:=hb5.size
     have hV5:∀b,q0≤b→b<wv.heap.size→w5.heap[b]? = wv.heap[b]?:=fun b h1 h2=>(hb5.block b (by omega)).trans (hV.2 b h1 h2)
     clear hcall hV hJV hMV hlaV
     refine wpAnyL_ready (i:=4) (by kernel_rfl) rfl (fun K hK=>?_)
     clear hS
     go_simp
     go_wp2_with fail
     have hal:=((Below.refl w5.heap.size w5).alloc (Nat.le_refl _) (.cells #[.slice a9 x.length c9] 32))
     have hJ6:=hJ5.stay hal
     have hM6:=hM5.stay (fun b hS hlt=>hal.block b hlt)
     have hl6:=hl5.stay (fun b hS hlt=>hal.block b hlt)
     have hs6:=World.size_alloc w5 (.cells #[.slice a9 x.length c9] 32)
     have hn6:(w5.alloc (.cells #[.slice a9 x.length c9] 32)).cell? ⟨w5.heap.size,0,none⟩=some (.slice a9 x.length c9):=(Blk.new w5 #[.slice a9 x.length c9] 32).cell 0 rfl
     have hV6:∀b,q0≤b→b<wv.heap.size→(w5.alloc (.cells #[.slice a9 x.length c9] 32)).heap[b]? = wv.heap[b]?:=fun b h1 h2=>(hal.block b (by omega)).trans (hV5 b h1 h2)
     refine hKo hK ⟨hJ6.tb,hV6⟩ (fun hS=>?_)
     clear hK K hJ5 hM5 hl5 hV5 hb5
     refine wpAnyL_ready (i:=5) (by kernel_rfl) rfl (fun K hK=>?_)
     clear hS
     refine wp_pushR (.tmp 56) (.tmp 59) rfl N (fun b=>wb.heap.size<b∧b<q0) (Fr V0.heap.size w5) _ _ rfl hM6 ?d2 w5.heap.size _ (.slice a9 x.length c9) rfl hn6 hl6 ?d3 hlen ?d5
     case d2=>intro b hb;rw[hs6];have:=hb.2;omega
     case d3=>intro b hb;exact⟨by rw[hs6];have:=hb.2;omega,fun h=>by have:=h.2;have:=hb.1;omega⟩
     intro v' w' hM' hg hvS
     have hgs:=hg.size
     rw[hs6]at hgs
     have hJ8:=Hd (hJ6.push hM' hg (fun g e=>by have:=hvS g e;exact⟨this.1,by rw[hs6];omega⟩) (fun b hb=>⟨hb.1,by have:=hb.2;omega⟩) (fun b hb=>⟨by have:=hb.1;omega,by have:=hb.2;omega⟩))
     have hV7:Blk w' wb.heap.size _ _:=(hg.block _ hJ6.tb.lt (fun e=>by have:=(hvS _ e.symm).1;omega)).trans hJ6.tb
     have hV8:∀b,q0≤b→b<wv.heap.size→w'.heap[b]? = wv.heap[b]?:=fun b h1 h2=>(hg.block b (by rw[hs6];omega) (fun e=>by have:=(hvS _ e.symm).2;omega)).trans (hV6 b h1 h2)
     obtain⟨ao7,cap7,hv7⟩:=hM'.form
     rw[List.length_append,List.length_singleton]at hv7
     subst hv7
     refine hKo hK ⟨hV7,hV8⟩ (fun hS=>?_)
     clear hK K hJ6 hM6 hl6 hn6 hM' hg hvS hV6 hV8
     refine tlH 6 ?_ rfl (fun w' hS=>?_) hS ?_
     rotate_left
     ·
      skip
      go_simp
      try with_reducible rfl
     refine wpAnyL_late (i:=7) (by kernel_rfl) rfl (by kernel_rfl) (fun K hK=>?_)
     clear hS
     have f1:=hV7.free 1
     have z0:=hV7.cell 0 rfl
     have z1:=hV7.cell 1 rfl
     go_simp
     go_wp2_with fail
     refine hK.out _ _ ?_
     clear hK K f1 hV7 z0 z1
     try simp only[List.getElem_toArray,List.getElem_cons_succ,List.getElem_cons_zero,Act.put,List.setIfInBounds_toArray,List.set_cons_zero,List.set_cons_succ]
     refine wpAnyL_done (by kernel_rfl) ?_ _
     rw[←hx.out]at hJ8
     go_wp2
     go_roundw
     case rel=>exact⟨i+1,_,hi1.out,by go_num,hJ8⟩
     case measure=>have:=hi1.out;simp[intOf];omega
   ·have hki:¬(i:Int)<(A.rows.length:Int):=by omega
    obtain rfl:i=A.rows.length:=by omega
    have hd:=Hd (hJ.out.done (vars:=A.vars) hB.out ownX.out hs6.out hsA.out hq2.out (by omega))
    have z0:=hJ.out.tb.cell 0 rfl
    have z1:=hJ.out.tb.cell 1 rfl
    have hrb5:Blk w7 (w.heap.size+1+1+1) _ _:=(hJ.out.below.block _ hq2lt.out).trans hq2.out
    have f1:=Blk.free hrb5
    have g0:=hrb5.cell 0 rfl
    have g1:=hrb5.cell 1 rfl
    obtain⟨ao9,cap9,hrv⟩:=hJ.out.slice
    subst hrv
    go_wp2
    refine bodyPost_ret (v:=.agg #[.slice ax A.vars.length cx,.slice ao9 (someK A B has bd A.rows.length).length cap9]) (results_cell_row rfl _ _ (w.heap.size+1+1+1) 25 _ (0,0) _ rfl hd.out.1.eq Tryz.underlying25 rfl infoTab) rfl ⟨_,rfl,by rw[hz.out];exact hd.out.2⟩
theorem TabO.stored{w w0 w2:World}{N rb:Nat}{names rv:Value}{t:Tab}(hb:Below w.heap.size w w0)(h:TabO w0 w2 N (.agg #[names,rv]) t)(hr:Blk w2 rb #[.slice none 0 0,.slice none 0 0] 25)(hlow:w.heap.size≤w0.heap.size)(hrl:rb<w0.heap.size)(hrw:w.heap.size≤rb):
 Blk ((w2.setCell ⟨rb,0,none⟩ names).setCell ⟨rb,1,none⟩ rv) rb #[names,rv] 25∧TabO w ((w2.setCell ⟨rb,0,none⟩ names).setCell ⟨rb,1,none⟩ rv) N (.agg #[names,rv]) t:=by
 obtain⟨vv,rv2,e,hb2,own,hsz,hM⟩:=h
 injection e with e
 have e2:=Array.mk.inj e
 simp only[List.cons.injEq,and_true]at e2
 obtain⟨rfl,rfl⟩:=e2
 have hr2:=hr.set 0 names
 have hr3:=hr2.set 1 rv
 refine⟨hr3,names,rv,rfl,?_,?_,hsz,?_⟩
 ·exact((hb.trans (hb2.mono hb.size)).setCell (p:=⟨rb,0,none⟩) hrw names).setCell (p:=⟨rb,1,none⟩) hrw rv
 ·exact own_set (own_set (own_low4 own hlow) hr (by decide) 0 names) hr2 (by decide) 1 rv
 ·have hsz2:((w2.setCell ⟨rb,0,none⟩ names).setCell ⟨rb,1,none⟩ rv).heap.size=w2.heap.size:=by simp[World.setCell]
  refine(hM.stay fun b hS _=>?_).mono fun b hS=>?_
  ·have:=hS.1
   rw[Below.heap_setCell _ _ _ b (by simp;omega),Below.heap_setCell _ _ _ b (by simp;omega)]
  ·exact⟨by have:=hS.1;omega,by rw[hsz2];exact hS.2⟩
theorem jsemi_any(N:Nat)(hN:N≤1048576)(w:World)(hE:Env w)(va vb:Value)(A B:Tab)(hA:TabA w N va A)(hB:TabA w N vb B)(a1:A.vars.length≤100000)(a2:A.rows.length≤1048575)(b1:B.vars.length≤100000)(b2:B.rows.length≤1048575)(hN64:128≤N)
 (kA:∀r∈A.rows,wtL r≤1100000)(kB:∀r∈B.rows,wtL r≤1100000):
 Calls Tryz.prog 18 #[va,vb] w fun e w'=>∃v,e=.returned v∧TabO w w' N v (someZ A B true false):=by
 obtain⟨vv,rv,rfl,hV,hR⟩:=hA.ex
 obtain⟨vv2,rv2,rfl,hV2,hR2⟩:=hB.ex
 obtain⟨av,cv,rfl,-⟩:=hV.form
 obtain⟨av2,cv2,rfl,-⟩:=hV2.form
 obtain⟨ar,cr,rfl,-,-⟩:=hR.form
 obtain⟨ar2,cr2,rfl,-,-⟩:=hR2.form
 have hal:Below w.heap.size w (((w.alloc (.cells #[.slice av A.vars.length cv,.slice ar A.rows.length cr] 25)).alloc (.cells #[.slice av2 B.vars.length cv2,.slice ar2 B.rows.length cr2] 25)).alloc (.cells #[.slice none 0 0,.slice none 0 0] 25)):=
  (((Below.refl _ _).alloc (Nat.le_refl _) _).alloc (by rw[World.size_alloc];omega) _).alloc (by rw[World.size_alloc,World.size_alloc];omega) _
 have hq0:=((Blk.new w #[.slice av A.vars.length cv,.slice ar A.rows.length cr] 25).alloc (.cells #[.slice av2 B.vars.length cv2,.slice ar2 B.rows.length cr2] 25)).alloc (.cells #[.slice none 0 0,.slice none 0 0] 25)
 have hq1:=(Blk.new (w.alloc (.cells #[.slice av A.vars.length cv,.slice ar A.rows.length cr] 25)) #[.slice av2 B.vars.length cv2,.slice ar2 B.rows.length cr2] 25).alloc (.cells #[.slice none 0 0,.slice none 0 0] 25)
 have hq2:=Blk.new ((w.alloc (.cells #[.slice av A.vars.length cv,.slice ar A.rows.length cr] 25)).alloc (.cells #[.slice av2 B.vars.length cv2,.slice ar2 B.rows.length cr2] 25)) #[.slice none 0 0,.slice none 0 0] 25
 rw[World.size_alloc]at hq1 hq2
 rw[World.size_alloc]at hq2
 obtain⟨w1,hw1⟩:∃w1,(((w.alloc (.cells #[.slice av A.vars.length cv,.slice ar A.rows.length cr] 25)).alloc (.cells #[.slice av2 B.vars.length cv2,.slice ar2 B.rows.length cr2] 25)).alloc (.cells #[.slice none 0 0,.slice none 0 0] 25))=w1:=⟨_,rfl⟩
 rw[hw1]at hal hq0 hq1 hq2
 have cS:=jsome_any N hN w1 (hE.below hal) _ _ A B true false (hA.stay hal) (hB.stay hal) a1 a2 b1 b2 hN64 kA kB
 have x0:=hq0.cell 0 rfl
 have x1:=hq0.cell 1 rfl
 have y0:=hq1.cell 0 rfl
 have y1:=hq1.cell 1 rfl
 obtain⟨Z,hZ⟩:∃Z,someZ A B true false=Z:=⟨_,rfl⟩
 rw[hZ]at cS ⊢
 replace cS:=Hd cS
 replace hal:=Hd hal
 replace hq2:=Hd hq2
 replace hw1:=Hd hw1
 replace hZ:=Hd hZ
 clear hA hB hV hV2 hR hR2 hE hq0 hq1 kA kB
 go_enter Tryz.func18,Tryz.ntmps18
 go_wp2_with fail
 rw[hw1.out]
 refine cS.out.mono ?_
 rintro e w2 ⟨v,rfl,hO⟩
 obtain⟨vv,rv,rfl,hb2,hown,hszs,hMR⟩:=hO
 obtain⟨an,cn,hvn⟩:=own_form4x hown
 obtain⟨an2,cn2,hvr⟩:=hMR.form
 subst hvn
 subst hvr
 have hB2:=hal.out.trans (hb2.mono hal.out.size)
 have hrb:Blk w2 (w.heap.size+1+1) _ _:=(hb2.block _ hq2.out.lt).trans hq2.out
 have hlow:=hal.out.size
 have hd:=Hd (TabO.stored (w0:=w1) (w:=w) hal.out ⟨_,_,rfl,hb2,hown,hszs,hMR⟩ hrb hlow hq2.out.lt (by omega))
 have f1:=Blk.free hrb
 have g0:=hrb.cell 0 rfl
 have g1:=hrb.cell 1 rfl
 clear cS hb2 hown hszs hMR hB2 hrb
 go_wp2
 refine bodyPost_ret (v:=.agg #[.slice an Z.vars.length cn,.slice an2 Z.rows.length cn2]) (results_cell_row rfl _ _ (w.heap.size+1+1) 25 _ (0,0) _ rfl hd.out.1.eq Tryz.underlying25 rfl infoTab) rfl ⟨_,rfl,hd.out.2⟩
theorem janti_any(N:Nat)(hN:N≤1048576)(w:World)(hE:Env w)(va vb:Value)(A B:Tab)(hA:TabA w N va A)(hB:TabA w N vb B)(a1:A.vars.length≤100000)(a2:A.rows.length≤1048575)(b1:B.vars.length≤100000)(b2:B.rows.length≤1048575)(hN64:128≤N)
 (kA:∀r∈A.rows,wtL r≤1100000)(kB:∀r∈B.rows,wtL r≤1100000):
 Calls Tryz.prog 12 #[va,vb] w fun e w'=>∃v,e=.returned v∧TabO w w' N v (someZ A B false false):=by
 obtain⟨vv,rv,rfl,hV,hR⟩:=hA.ex
 obtain⟨vv2,rv2,rfl,hV2,hR2⟩:=hB.ex
 obtain⟨av,cv,rfl,-⟩:=hV.form
 obtain⟨av2,cv2,rfl,-⟩:=hV2.form
 obtain⟨ar,cr,rfl,-,-⟩:=hR.form
 obtain⟨ar2,cr2,rfl,-,-⟩:=hR2.form
 have hal:Below w.heap.size w (((w.alloc (.cells #[.slice av A.vars.length cv,.slice ar A.rows.length cr] 25)).alloc (.cells #[.slice av2 B.vars.length cv2,.slice ar2 B.rows.length cr2] 25)).alloc (.cells #[.slice none 0 0,.slice none 0 0] 25)):=
  (((Below.refl _ _).alloc (Nat.le_refl _) _).alloc (by rw[World.size_alloc];omega) _).alloc (by rw[World.size_alloc,World.size_alloc];omega) _
 have hq0:=((Blk.new w #[.slice av A.vars.length cv,.slice ar A.rows.length cr] 25).alloc (.cells #[.slice av2 B.vars.length cv2,.slice ar2 B.rows.length cr2] 25)).alloc (.cells #[.slice none 0 0,.slice none 0 0] 25)
 have hq1:=(Blk.new (w.alloc (.cells #[.slice av A.vars.length cv,.slice ar A.rows.length cr] 25)) #[.slice av2 B.vars.length cv2,.slice ar2 B.rows.length cr2] 25).alloc (.cells #[.slice none 0 0,.slice none 0 0] 25)
 have hq2:=Blk.new ((w.alloc (.cells #[.slice av A.vars.length cv,.slice ar A.rows.length cr] 25)).alloc (.cells #[.slice av2 B.vars.length cv2,.slice ar2 B.rows.length cr2] 25)) #[.slice none 0 0,.slice none 0 0] 25
 rw[World.size_alloc]at hq1 hq2
 rw[World.size_alloc]at hq2
 obtain⟨w1,hw1⟩:∃w1,(((w.alloc (.cells #[.slice av A.vars.length cv,.slice ar A.rows.length cr] 25)).alloc (.cells #[.slice av2 B.vars.length cv2,.slice ar2 B.rows.length cr2] 25)).alloc (.cells #[.slice none 0 0,.slice none 0 0] 25))=w1:=⟨_,rfl⟩
 rw[hw1]at hal hq0 hq1 hq2
 have cS:=jsome_any N hN w1 (hE.below hal) _ _ A B false false (hA.stay hal) (hB.stay hal) a1 a2 b1 b2 hN64 kA kB
 have x0:=hq0.cell 0 rfl
 have x1:=hq0.cell 1 rfl
 have y0:=hq1.cell 0 rfl
 have y1:=hq1.cell 1 rfl
 obtain⟨Z,hZ⟩:∃Z,someZ A B false false=Z:=⟨_,rfl⟩
 rw[hZ]at cS ⊢
 replace cS:=Hd cS
 replace hal:=Hd hal
 replace hq2:=Hd hq2
 replace hw1:=Hd hw1
 replace hZ:=Hd hZ
 clear hA hB hV hV2 hR hR2 hE hq0 hq1 kA kB
 go_enter Tryz.func12,Tryz.ntmps12
 go_wp2_with fail
 rw[hw1.out]
 refine cS.out.mono ?_
 rintro e w2 ⟨v,rfl,hO⟩
 obtain⟨vv,rv,rfl,hb2,hown,hszs,hMR⟩:=hO
 obtain⟨an,cn,hvn⟩:=own_form4x hown
 obtain⟨an2,cn2,hvr⟩:=hMR.form
 subst hvn
 subst hvr
 have hB2:=hal.out.trans (hb2.mono hal.out.size)
 have hrb:Blk w2 (w.heap.size+1+1) _ _:=(hb2.block _ hq2.out.lt).trans hq2.out
 have hlow:=hal.out.size
 have hd:=Hd (TabO.stored (w0:=w1) (w:=w) hal.out ⟨_,_,rfl,hb2,hown,hszs,hMR⟩ hrb hlow hq2.out.lt (by omega))
 have f1:=Blk.free hrb
 have g0:=hrb.cell 0 rfl
 have g1:=hrb.cell 1 rfl
 clear cS hb2 hown hszs hMR hB2 hrb
 go_wp2
 refine bodyPost_ret (v:=.agg #[.slice an Z.vars.length cn,.slice an2 Z.rows.length cn2]) (results_cell_row rfl _ _ (w.heap.size+1+1) 25 _ (0,0) _ rfl hd.out.1.eq Tryz.underlying25 rfl infoTab) rfl ⟨_,rfl,hd.out.2⟩
theorem jminus_any(N:Nat)(hN:N≤1048576)(w:World)(hE:Env w)(va vb:Value)(A B:Tab)(hA:TabA w N va A)(hB:TabA w N vb B)(a1:A.vars.length≤100000)(a2:A.rows.length≤1048575)(b1:B.vars.length≤100000)(b2:B.rows.length≤1048575)(hN64:128≤N)
 (kA:∀r∈A.rows,wtL r≤1100000)(kB:∀r∈B.rows,wtL r≤1100000):
 Calls Tryz.prog 19 #[va,vb] w fun e w'=>∃v,e=.returned v∧TabO w w' N v (someZ A B false true):=by
 obtain⟨vv,rv,rfl,hV,hR⟩:=hA.ex
 obtain⟨vv2,rv2,rfl,hV2,hR2⟩:=hB.ex
 obtain⟨av,cv,rfl,-⟩:=hV.form
 obtain⟨av2,cv2,rfl,-⟩:=hV2.form
 obtain⟨ar,cr,rfl,-,-⟩:=hR.form
 obtain⟨ar2,cr2,rfl,-,-⟩:=hR2.form
 have hal:Below w.heap.size w (((w.alloc (.cells #[.slice av A.vars.length cv,.slice ar A.rows.length cr] 25)).alloc (.cells #[.slice av2 B.vars.length cv2,.slice ar2 B.rows.length cr2] 25)).alloc (.cells #[.slice none 0 0,.slice none 0 0] 25)):=
  (((Below.refl _ _).alloc (Nat.le_refl _) _).alloc (by rw[World.size_alloc];omega) _).alloc (by rw[World.size_alloc,World.size_alloc];omega) _
 have hq0:=((Blk.new w #[.slice av A.vars.length cv,.slice ar A.rows.length cr] 25).alloc (.cells #[.slice av2 B.vars.length cv2,.slice ar2 B.rows.length cr2] 25)).alloc (.cells #[.slice none 0 0,.slice none 0 0] 25)
 have hq1:=(Blk.new (w.alloc (.cells #[.slice av A.vars.length cv,.slice ar A.rows.length cr] 25)) #[.slice av2 B.vars.length cv2,.slice ar2 B.rows.length cr2] 25).alloc (.cells #[.slice none 0 0,.slice none 0 0] 25)
 have hq2:=Blk.new ((w.alloc (.cells #[.slice av A.vars.length cv,.slice ar A.rows.length cr] 25)).alloc (.cells #[.slice av2 B.vars.length cv2,.slice ar2 B.rows.length cr2] 25)) #[.slice none 0 0,.slice none 0 0] 25
 rw[World.size_alloc]at hq1 hq2
 rw[World.size_alloc]at hq2
 obtain⟨w1,hw1⟩:∃w1,(((w.alloc (.cells #[.slice av A.vars.length cv,.slice ar A.rows.length cr] 25)).alloc (.cells #[.slice av2 B.vars.length cv2,.slice ar2 B.rows.length cr2] 25)).alloc (.cells #[.slice none 0 0,.slice none 0 0] 25))=w1:=⟨_,rfl⟩
 rw[hw1]at hal hq0 hq1 hq2
 have cS:=jsome_any N hN w1 (hE.below hal) _ _ A B false true (hA.stay hal) (hB.stay hal) a1 a2 b1 b2 hN64 kA kB
 have x0:=hq0.cell 0 rfl
 have x1:=hq0.cell 1 rfl
 have y0:=hq1.cell 0 rfl
 have y1:=hq1.cell 1 rfl
 obtain⟨Z,hZ⟩:∃Z,someZ A B false true=Z:=⟨_,rfl⟩
 rw[hZ]at cS ⊢
 replace cS:=Hd cS
 replace hal:=Hd hal
 replace hq2:=Hd hq2
 replace hw1:=Hd hw1
 replace hZ:=Hd hZ
 clear hA hB hV hV2 hR hR2 hE hq0 hq1 kA kB
 go_enter Tryz.func19,Tryz.ntmps19
 go_wp2_with fail
 rw[hw1.out]
 refine cS.out.mono ?_
 rintro e w2 ⟨v,rfl,hO⟩
 obtain⟨vv,rv,rfl,hb2,hown,hszs,hMR⟩:=hO
 obtain⟨an,cn,hvn⟩:=own_form4x hown
 obtain⟨an2,cn2,hvr⟩:=hMR.form
 subst hvn
 subst hvr
 have hB2:=hal.out.trans (hb2.mono hal.out.size)
 have hrb:Blk w2 (w.heap.size+1+1) _ _:=(hb2.block _ hq2.out.lt).trans hq2.out
 have hlow:=hal.out.size
 have hd:=Hd (TabO.stored (w0:=w1) (w:=w) hal.out ⟨_,_,rfl,hb2,hown,hszs,hMR⟩ hrb hlow hq2.out.lt (by omega))
 have f1:=Blk.free hrb
 have g0:=hrb.cell 0 rfl
 have g1:=hrb.cell 1 rfl
 clear cS hb2 hown hszs hMR hB2 hrb
 go_wp2
 refine bodyPost_ret (v:=.agg #[.slice an Z.vars.length cn,.slice an2 Z.rows.length cn2]) (results_cell_row rfl _ _ (w.heap.size+1+1) 25 _ (0,0) _ rfl hd.out.1.eq Tryz.underlying25 rfl infoTab) rfl ⟨_,rfl,hd.out.2⟩
open hyp (RowA TextsA stay_of_below textsV textsV_length)
set_option maxRecDepth 100000
structure TwoJ(W:World)(N:Nat)(v va ra vb rb ov:Value)(A B:Tab)(lang:Int):Prop where
 eq:v=.agg #[va,ra,vb,rb,.int .i64 lang,ov]
 av:TextsA W W.heap.size va A.vars
 ar:RowsA W N ra A.rows
 bv:TextsA W W.heap.size vb B.vars
 br:RowsA W N rb B.rows
 ov:∃ao len cap,ov=.slice ao len cap
 few:A.vars.length+wtR A.rows+B.vars.length+wtR B.rows≤1048576
 lwf:(Lit.int .i64 lang).wf=true
theorem open_twoJ{H:Type}{enc:TypeId×Value→H}{W:World}{base:Nat}{v:Value}{d:DataW H}{p:List MemPlace}
 (hv:Value.okWide Tryz.prog W .any base 28 v)(h:DataW.Trod enc Tryz.prog W 0 (fun _=>true) true 28 v d p)(hb:Rows.uptoBulk d≤1048576):
 ∃va ra vb rb ov A B lang,TwoJ W 1048576 v va ra vb rb ov A B lang:=by
 obtain⟨cs,rfl,hsz⟩:=okWide_struct Tryz.underlying28 hv
 have hC:Tryz.prog.cellsOf 28=6:=by kernel_rfl
 have hC1:Tryz.prog.cellsOf 25=2:=by kernel_rfl
 have hC3:Tryz.prog.cellsOf 3=1:=by kernel_rfl
 have hC4:Tryz.prog.cellsOf 26=1:=by kernel_rfl
 rw[hC]at hsz
 obtain⟨cs⟩:=cs
 obtain⟨fuel,hf⟩:=h
 obtain⟨xs,n',rfl,e,hcl,hxl,hfs⟩:=DataW.trod_struct Tryz.underlying28 hf
 match cs,hsz with
 | [c0, c1, c2, c3, c4, c5], _ =>
  match xs,hxl with
  | [y0, y1, y2, y3], _ =>
   have f0:=hfs 0 _ rfl
   have f1:=hfs 1 _ rfl
   have f2:=hfs 2 _ rfl
   have f3:=hfs 3 _ rfl
   simp[Value.cells,hC1,hC3,hC4]at f0 f1 f2 f3
   have hd:d=.agg [y0.1,y1.1,y2.1,y3.1]:=by
    first|(have:=congrArg Prod.fst e;simpa using this)|(cases e;rfl)
   rw[hd]at hb
   simp only[Rows.uptoBulk,Rows.uptoBulkAll]at hb
   obtain⟨va,ra,A,e0,t0,r0,b0⟩:=tab_of (N:=1048576) f0 (by omega)
   obtain⟨vb,rb,B,e1,t1,r1,b1⟩:=tab_of (N:=1048576) f1 (by omega)
   obtain⟨lang,e2,-,w2⟩:=DataW.trod_int Tryz.underlying3 f2
   have e3:∃ao len cap,c5=.slice ao len cap:=by
    rcases DataW.trod_slice Tryz.underlying26 f3 with⟨e3,e4⟩|⟨a,len,cap,elems,rest,n,e3,e4,e5,-⟩
    ·first|exact⟨_,_,_,(List.cons.inj e3).1⟩|exact⟨_,_,_,(List.cons.inj e4).1⟩
    ·first|exact⟨_,_,_,(List.cons.inj e3).1⟩|exact⟨_,_,_,(List.cons.inj e4).1⟩|exact⟨_,_,_,(List.cons.inj e5).1⟩
   simp only[List.cons.injEq,and_true]at e0 e1 e2
   obtain⟨rfl,rfl⟩:=e0
   obtain⟨rfl,rfl⟩:=e1
   subst e2
   refine⟨_,_,_,_,_,A,B,lang,rfl,t0,r0,t1,r1,e3,?_,w2⟩
   omega
theorem TwoJ.stay{W W':World}{N:Nat}{v va ra vb rb ov:Value}{A B:Tab}{lang:Int}(h:TwoJ W N v va ra vb rb ov A B lang)(hb:Below W.heap.size W W'):TwoJ W' N v va ra vb rb ov A B lang:=
 ⟨h.eq,TextsA.below h.av hb,h.ar.stay hb,TextsA.below h.bv hb,h.br.stay hb,h.ov,h.few,h.lwf⟩
theorem TwoJ.tabA{W:World}{N:Nat}{v va ra vb rb ov:Value}{A B:Tab}{lang:Int}(h:TwoJ W N v va ra vb rb ov A B lang):TabA W N (.agg #[va,ra]) A:=⟨_,_,rfl,h.av,h.ar⟩
theorem TwoJ.tabB{W:World}{N:Nat}{v va ra vb rb ov:Value}{A B:Tab}{lang:Int}(h:TwoJ W N v va ra vb rb ov A B lang):TabA W N (.agg #[vb,rb]) B:=⟨_,_,rfl,h.bv,h.br⟩
def lightJ(A B:Tab):Bool:=decide (sizeR A.rows≤1500)&&(decide (sizeR B.rows≤1500)&&(decide (A.rows.length≤40)&&(decide (B.rows.length≤40)&&(decide (A.vars.length≤100)&&decide (B.vars.length≤100)))))
theorem lightJ_parts{A B:Tab}(h:lightJ A B=true):sizeR A.rows≤1500∧sizeR B.rows≤1500∧A.rows.length≤40∧B.rows.length≤40∧A.vars.length≤100∧B.vars.length≤100:=by
 unfold lightJ at h
 simp only[Bool.and_eq_true,decide_eq_true_eq]at h
 exact h
theorem lightJ_any(w:World)(N:Nat)(hN:N≤1048576)(v va ra vb rb ov:Value)(A B:Tab)(lang:Int)(hT:TwoJ w N v va ra vb rb ov A B lang):
 Calls Tryz.prog 4 #[v] w fun e w'=>e=.returned (.bool (lightJ A B))∧Below w.heap.size w w':=by
 obtain⟨av,cv,hav,-⟩:=hT.av.form
 obtain⟨ar,cr,har,-,-⟩:=hT.ar.form
 obtain⟨bv,dv,hbv,-⟩:=hT.bv.form
 obtain⟨br,dr,hbr,-,-⟩:=hT.br.form
 obtain⟨oo,lo,co,hov⟩:=hT.ov
 subst hav har hbv hbr hov
 have hveq:=hT.eq
 subst hveq
 have l1:=wtR_len A.rows
 have l2:=wtR_len B.rows
 have hfew:=hT.few
 have hTar:=hT.ar
 have hTbr:=hT.br
 have hq:=Blk.new w #[.slice av A.vars.length cv,.slice ar A.rows.length cr,.slice bv B.vars.length dv,.slice br B.rows.length dr,.int .i64 lang,.slice oo lo co] 28
 have hal:Below w.heap.size w (w.alloc (.cells #[.slice av A.vars.length cv,.slice ar A.rows.length cr,.slice bv B.vars.length dv,.slice br B.rows.length dr,.int .i64 lang,.slice oo lo co] 28)):=(Below.refl _ _).alloc (Nat.le_refl _) _
 have cA:=Hd (kitRows_any N hN _ _ A.rows (hTar.stay hal) (by omega))
 have cB:=Hd (fun V (h:Below w.heap.size w V)=>kitRows_any N hN V _ B.rows (hTbr.stay h) (by omega))
 have x0:=hq.cell 0 rfl
 have x1:=hq.cell 1 rfl
 have x2:=hq.cell 2 rfl
 have x3:=hq.cell 3 rfl
 obtain⟨q,hqd⟩:∃q,lightJ A B=q:=⟨_,rfl⟩
 rw[hqd]
 have hqq:q=(decide (sizeR A.rows≤1500)&&(decide (sizeR B.rows≤1500)&&(decide (A.rows.length≤40)&&(decide (B.rows.length≤40)&&(decide (A.vars.length≤100)&&decide (B.vars.length≤100)))))):=hqd.symm
 replace hal:=Hd hal
 clear hq hqd hTar hTbr hT
 generalize sizeR A.rows=sa at *
 generalize sizeR B.rows=sb at *
 go_enter Tryz.func4,Tryz.ntmps4
 go_wp2_with fail
 refine cA.out.mono ?_
 rintro e w2 ⟨rfl,hb2⟩
 replace x0:=sB hb2 x0
 replace x1:=sB hb2 x1
 replace x2:=sB hb2 x2
 replace x3:=sB hb2 x3
 have hB2:=hal.out.trans (hb2.mono hal.out.size)
 have cB2:=Hd (cB.out _ hB2)
 replace hB2:=Hd hB2
 clear cA cB hb2 hal
 by_cases h1:sa≤1500
 case neg=>
  have hz:q=false:=by rw[hqq,decide_eq_false h1];rfl
  have h1i:¬(sa:Int)≤1500:=by omega
  clear cB2 hqq
  replace hz:=Hd hz
  go_wp2
  go_ret
  exact⟨ret_bool hz.out.symm,hB2.out⟩
 have h1i:(sa:Int)≤1500:=by omega
 go_wp2_with fail
 refine cB2.out.mono ?_
 rintro e w3 ⟨rfl,hb3⟩
 replace x0:=sB hb3 x0
 replace x1:=sB hb3 x1
 replace x2:=sB hb3 x2
 replace x3:=sB hb3 x3
 have hB3:=Hd (hB2.out.trans (hb3.mono hB2.out.size))
 clear cB2 hb3 hB2
 by_cases h2:sb≤1500
 case neg=>
  have hz:q=false:=by rw[hqq,decide_eq_true h1,decide_eq_false h2];rfl
  have h2i:¬(sb:Int)≤1500:=by omega
  clear hqq
  replace hz:=Hd hz
  go_wp2
  go_ret
  exact⟨ret_bool hz.out.symm,hB3.out⟩
 have h2i:(sb:Int)≤1500:=by omega
 by_cases h3:A.rows.length≤40
 case neg=>
  have hz:q=false:=by rw[hqq,decide_eq_true h1,decide_eq_true h2,decide_eq_false h3];rfl
  have h3i:¬(A.rows.length:Int)≤40:=by omega
  clear hqq
  replace hz:=Hd hz
  go_wp2
  go_ret
  exact⟨ret_bool hz.out.symm,hB3.out⟩
 have h3i:(A.rows.length:Int)≤40:=by omega
 by_cases h4:B.rows.length≤40
 case neg=>
  have hz:q=false:=by rw[hqq,decide_eq_true h1,decide_eq_true h2,decide_eq_true h3,decide_eq_false h4];rfl
  have h4i:¬(B.rows.length:Int)≤40:=by omega
  clear hqq
  replace hz:=Hd hz
  go_wp2
  go_ret
  exact⟨ret_bool hz.out.symm,hB3.out⟩
 have h4i:(B.rows.length:Int)≤40:=by omega
 by_cases h5:A.vars.length≤100
 case neg=>
  have hz:q=false:=by rw[hqq,decide_eq_true h1,decide_eq_true h2,decide_eq_true h3,decide_eq_true h4,decide_eq_false h5];rfl
  have h5i:¬(A.vars.length:Int)≤100:=by omega
  clear hqq
  replace hz:=Hd hz
  go_wp2
  go_ret
  exact⟨ret_bool hz.out.symm,hB3.out⟩
 have h5i:(A.vars.length:Int)≤100:=by omega
 have hz:q=decide (B.vars.length≤100):=by rw[hqq,decide_eq_true h1,decide_eq_true h2,decide_eq_true h3,decide_eq_true h4,decide_eq_true h5];rfl
 have h6:decide ((B.vars.length:Int)≤100)=decide (B.vars.length≤100):=by rw[decide_eq_decide];omega
 rw[←h6]at hz
 replace hz:=Hd hz
 replace h6:=Hd h6
 clear hqq
 go_wp2
 go_ret
 exact⟨ret_bool hz.out.symm,hB3.out⟩
theorem wt_lightJ{A B:Tab}(h:lightJ A B=true):(∀r∈A.rows,wtL r≤190500)∧∀r∈B.rows,wtL r≤190500:=by
 obtain⟨h1,h2,-⟩:=lightJ_parts h
 refine⟨fun r hr=>?_,fun r hr=>?_⟩
 ·have:=sizeR_mem hr;have:=wtL_size r;omega
 ·have:=sizeR_mem hr;have:=wtL_size r;omega
theorem num13_any(w:World)(n:Int):Calls Tryz.prog 16 #[.int .i64 n] w fun e w'=>e=.returned (.agg #[.int .i64 2,.bool false,.int .i64 n,.string ⟨#[]⟩,.string ⟨#[]⟩,.slice none 0 0])∧Below w.heap.size w w':=by
 go_enter Tryz.func16,Tryz.ntmps16
 go_wp2
 refine bodyPost_ret (v:=.agg #[.int .i64 2,.bool false,.int .i64 n,.string ⟨#[]⟩,.string ⟨#[]⟩,.slice none 0 0]) (results_cell_row rfl _ _ w.heap.size 34 _ (0,0) _ rfl (Blk.new w #[.int .i64 2,.bool false,.int .i64 n,.string ⟨#[]⟩,.string ⟨#[]⟩,.slice none 0 0] 34).eq Tryz.underlying34 rfl infoV6) rfl ⟨rfl,(Below.refl _ _).alloc (Nat.le_refl _) _⟩
theorem field_rowsJ(n c n2 c2:Nat)(a b:Option Addr)(w:World):(Instr.field 25 (.agg #[.slice a n c,.slice b n2 c2]) 1).run Tryz.prog w=.ok (.slice b n2 c2) w:=by kernel_rfl
def jA:Tab:=⟨[⟨#[120]⟩],[[numV9 1],[numV9 2]]⟩
def jB:Tab:=⟨[⟨#[120]⟩,⟨#[121]⟩],[[numV9 1,numV9 5]]⟩
theorem wakeJ_join:(joinZ jA jB).rows.length=1:=by kernel_rfl
theorem wakeJ_some(has bd:Bool):(someZ jA jB has bd).rows.length=1:=by cases has<;>cases bd<;>kernel_rfl
theorem wakeJ_A:∀r∈jA.rows,wtL r≤1100000:=by decide +kernel
theorem wakeJ_B:∀r∈jB.rows,wtL r≤1100000:=by decide +kernel
theorem wakesJ_any(w:World)(hE:Env w):Calls Tryz.prog 6 #[] w fun e w'=>e=.returned (.bool true)∧Below w.heap.size w w':=by
 go_enter Tryz.func6,Tryz.ntmps6
 go_wp2_with fail
 refine(num13_any _ _).mono ?_
 rintro e w1 ⟨rfl,hb1⟩
 go_wp2_with fail
 refine(num13_any _ _).mono ?_
 rintro e w2 ⟨rfl,hb2⟩
 go_upto_region 2 with fail
 have hb01:=((Below.refl w.heap.size w).alloc (Nat.le_refl _) (.cells #[.string ⟨#[120]⟩] 9)).trans (hb1.mono (by rw[World.size_alloc];omega))
 have hb12:=((Below.refl w1.heap.size w1).alloc (Nat.le_refl _) (.cells #[.int .i64 2,.bool false,.int .i64 1,.string ⟨#[]⟩,.string ⟨#[]⟩,.slice none 0 0] 34)).trans (hb2.mono (by rw[World.size_alloc];omega))
 have n0:Blk w2 w.heap.size #[.string ⟨#[120]⟩] 9:=((Blk.new w #[.string ⟨#[120]⟩] 9).keep (Keep.ofBelow hb1) (by simp)).keep (Keep.ofBelow hb12) (by simp)
 have r1:Blk w2 w1.heap.size #[.int .i64 2,.bool false,.int .i64 1,.string ⟨#[]⟩,.string ⟨#[]⟩,.slice none 0 0] 34:=(Blk.new w1 #[.int .i64 2,.bool false,.int .i64 1,.string ⟨#[]⟩,.string ⟨#[]⟩,.slice none 0 0] 34).keep (Keep.ofBelow hb2) (by simp)
 obtain⟨w3,hw3⟩:∃w3,((w2.alloc (.cells #[.int .i64 2,.bool false,.int .i64 2,.string ⟨#[]⟩,.string ⟨#[]⟩,.slice none 0 0] 34)).alloc (.cells #[.slice (some ⟨w1.heap.size,0,none⟩) 1 1,.slice (some ⟨w2.heap.size,0,none⟩) 1 1] 32)).alloc (.cells #[.slice (some ⟨w.heap.size,0,none⟩) 1 1,.slice (some ⟨w2.heap.size+1,0,none⟩) 2 2] 25)=w3:=⟨_,rfl⟩
 have hb23:Below w2.heap.size w2 w3:=by
  rw[←hw3]
  exact(((Below.refl _ _).alloc (Nat.le_refl _) _).alloc (by simp) _).alloc (by simp;omega) _
 have r2:Blk w3 w2.heap.size #[.int .i64 2,.bool false,.int .i64 2,.string ⟨#[]⟩,.string ⟨#[]⟩,.slice none 0 0] 34:=by
  rw[←hw3]
  exact((Blk.new w2 _ _).alloc _).alloc _
 have r3:Blk w3 (w2.heap.size+1) #[.slice (some ⟨w1.heap.size,0,none⟩) 1 1,.slice (some ⟨w2.heap.size,0,none⟩) 1 1] 32:=by
  have h:=(Blk.new (w2.alloc (.cells #[.int .i64 2,.bool false,.int .i64 2,.string ⟨#[]⟩,.string ⟨#[]⟩,.slice none 0 0] 34)) #[.slice (some ⟨w1.heap.size,0,none⟩) 1 1,.slice (some ⟨w2.heap.size,0,none⟩) 1 1] 32).alloc (.cells #[.slice (some ⟨w.heap.size,0,none⟩) 1 1,.slice (some ⟨w2.heap.size+1,0,none⟩) 2 2] 25)
  rw[World.size_alloc]at h
  rw[←hw3]
  exact h
 have r4:Blk w3 (w2.heap.size+1+1) #[.slice (some ⟨w.heap.size,0,none⟩) 1 1,.slice (some ⟨w2.heap.size+1,0,none⟩) 2 2] 25:=by
  have h:=Blk.new ((w2.alloc (.cells #[.int .i64 2,.bool false,.int .i64 2,.string ⟨#[]⟩,.string ⟨#[]⟩,.slice none 0 0] 34)).alloc (.cells #[.slice (some ⟨w1.heap.size,0,none⟩) 1 1,.slice (some ⟨w2.heap.size,0,none⟩) 1 1] 32)) #[.slice (some ⟨w.heap.size,0,none⟩) 1 1,.slice (some ⟨w2.heap.size+1,0,none⟩) 2 2] 25
  rw[World.size_alloc,World.size_alloc]at h
  rw[←hw3]
  exact h
 have r1':Blk w3 w1.heap.size #[.int .i64 2,.bool false,.int .i64 1,.string ⟨#[]⟩,.string ⟨#[]⟩,.slice none 0 0] 34:=(hb23.block _ r1.lt).trans r1
 have tA:TabA w3 1048576 (.agg #[.slice (some ⟨w.heap.size,0,none⟩) 1 1,.slice (some ⟨w2.heap.size+1,0,none⟩) 2 2]) jA:=⟨_,_,rfl,texts_blk (l:=[⟨#[120]⟩]) ((hb23.block _ n0.lt).trans n0) (by decide) (by intro s hs;rw[List.mem_singleton]at hs;rw[hs];decide),
  rows_blk (vs:=[.slice (some ⟨w1.heap.size,0,none⟩) 1 1,.slice (some ⟨w2.heap.size,0,none⟩) 1 1]) r3 rfl (by simp) (fun j h h'=>by
   match j,h with
   |0,_=>exact la_num1 (by omega) r1' (by unfold In64;omega)
   |1,_=>exact la_num1 (by omega) r2 (by unfold In64;omega))⟩
 have hb02:=hb01.trans (hb12.mono hb01.size)
 have hb03:=hb02.trans (hb23.mono hb02.size)
 have hE3:=hE.below hb03
 replace tA:=Hd tA
 replace r4:=Hd r4
 replace hb03:=Hd hb03
 replace hE3:=Hd hE3
 rw[hw3]
 have s1:Hid (w.heap.size≤w1.heap.size∧w1.heap.size≤w2.heap.size):=Hd ⟨hb01.size,hb12.size⟩
 clear r1 r1' r2 r3 n0 hb01 hb12 hb02 hb23 hw3 hb1 hb2 hE
 go_wp2_with fail
 refine(num13_any _ _).mono ?_
 rintro e w4 ⟨rfl,hb4⟩
 go_wp2_with fail
 refine(num13_any _ _).mono ?_
 rintro e w5 ⟨rfl,hb5⟩
 go_upto_region 3 with fail
 have hb34:=((Below.refl w3.heap.size w3).alloc (Nat.le_refl _) (.cells #[.string ⟨#[120]⟩,.string ⟨#[121]⟩] 9)).trans (hb4.mono (by rw[World.size_alloc];omega))
 have hb35:=hb34.trans (hb5.mono hb34.size)
 have n0:Blk w5 w3.heap.size #[.string ⟨#[120]⟩,.string ⟨#[121]⟩] 9:=((Blk.new w3 #[.string ⟨#[120]⟩,.string ⟨#[121]⟩] 9).keep (Keep.ofBelow hb4) (by simp)).keep (Keep.ofBelow hb5) (by simp)
 obtain⟨w6,hw6⟩:∃w6,((w5.alloc (.cells #[.int .i64 2,.bool false,.int .i64 1,.string ⟨#[]⟩,.string ⟨#[]⟩,.slice none 0 0,.int .i64 2,.bool false,.int .i64 5,.string ⟨#[]⟩,.string ⟨#[]⟩,.slice none 0 0] 34)).alloc (.cells #[.slice (some ⟨w5.heap.size,0,none⟩) 2 2] 32)).alloc (.cells #[.slice (some ⟨w3.heap.size,0,none⟩) 2 2,.slice (some ⟨w5.heap.size+1,0,none⟩) 1 1] 25)=w6:=⟨_,rfl⟩
 have hb56:Below w5.heap.size w5 w6:=by
  rw[←hw6]
  exact(((Below.refl _ _).alloc (Nat.le_refl _) _).alloc (by simp) _).alloc (by simp;omega) _
 have q1:Blk w6 w5.heap.size #[.int .i64 2,.bool false,.int .i64 1,.string ⟨#[]⟩,.string ⟨#[]⟩,.slice none 0 0,.int .i64 2,.bool false,.int .i64 5,.string ⟨#[]⟩,.string ⟨#[]⟩,.slice none 0 0] 34:=by
  rw[←hw6]
  exact((Blk.new w5 _ _).alloc _).alloc _
 have q2:Blk w6 (w5.heap.size+1) #[.slice (some ⟨w5.heap.size,0,none⟩) 2 2] 32:=by
  have h:=(Blk.new (w5.alloc (.cells #[.int .i64 2,.bool false,.int .i64 1,.string ⟨#[]⟩,.string ⟨#[]⟩,.slice none 0 0,.int .i64 2,.bool false,.int .i64 5,.string ⟨#[]⟩,.string ⟨#[]⟩,.slice none 0 0] 34)) #[.slice (some ⟨w5.heap.size,0,none⟩) 2 2] 32).alloc (.cells #[.slice (some ⟨w3.heap.size,0,none⟩) 2 2,.slice (some ⟨w5.heap.size+1,0,none⟩) 1 1] 25)
  rw[World.size_alloc]at h
  rw[←hw6]
  exact h
 have q3:Blk w6 (w5.heap.size+1+1) #[.slice (some ⟨w3.heap.size,0,none⟩) 2 2,.slice (some ⟨w5.heap.size+1,0,none⟩) 1 1] 25:=by
  have h:=Blk.new ((w5.alloc (.cells #[.int .i64 2,.bool false,.int .i64 1,.string ⟨#[]⟩,.string ⟨#[]⟩,.slice none 0 0,.int .i64 2,.bool false,.int .i64 5,.string ⟨#[]⟩,.string ⟨#[]⟩,.slice none 0 0] 34)).alloc (.cells #[.slice (some ⟨w5.heap.size,0,none⟩) 2 2] 32)) #[.slice (some ⟨w3.heap.size,0,none⟩) 2 2,.slice (some ⟨w5.heap.size+1,0,none⟩) 1 1] 25
  rw[World.size_alloc,World.size_alloc]at h
  rw[←hw6]
  exact h
 have tB:TabA w6 1048576 (.agg #[.slice (some ⟨w3.heap.size,0,none⟩) 2 2,.slice (some ⟨w5.heap.size+1,0,none⟩) 1 1]) jB:=⟨_,_,rfl,texts_blk (l:=[⟨#[120]⟩,⟨#[121]⟩]) ((hb56.block _ n0.lt).trans n0) (by decide) (by
  intro s hs
  simp only[List.mem_cons,List.not_mem_nil,or_false]at hs
  rcases hs with rfl|rfl<;>decide),
  rows_blk (vs:=[.slice (some ⟨w5.heap.size,0,none⟩) 2 2]) q2 rfl (by simp) (fun j h h'=>by
   match j,h with
   |0,_=>exact la_num2 (n:=1) (m:=5) (by omega) q1 (by unfold In64;omega) (by unfold In64;omega))⟩
 have hb36:=hb35.trans (hb56.mono hb35.size)
 have r46:=r4.out.keep (Keep.ofBelow hb36) (by simp)
 have h6:=hb03.out.trans (hb36.mono hb03.out.size)
 have hE6:=Hd (fun V (h:Below w6.heap.size w6 V)=>(hE3.out.below hb36).below h)
 have tA6:=Hd (fun V (h:Below w6.heap.size w6 V)=>(tA.out.stay hb36).stay h)
 have tB6:=Hd (fun V (h:Below w6.heap.size w6 V)=>tB.stay h)
 have x0:=r46.cell 0 rfl
 have x1:=r46.cell 1 rfl
 have y0:=q3.cell 0 rfl
 have y1:=q3.cell 1 rfl
 have g0:Below w6.heap.size w6 w6:=Below.refl _ _
 have hb06:=Hd h6
 rw[hw6]
 have kA:=Hd wakeJ_A
 have kB:=Hd wakeJ_B
 have hfr:=field_rowsJ
 clear hb34 hb35 n0 hb56 q1 q2 q3 tB hb36 r46 tA r4 hb03 hE3 hb4 hb5 hw6 s1 h6
 go_wp2_with fail
 refine(jhash_any 1048576 (by omega) w6 (hE6.out _ g0) _ _ jA jB (tA6.out _ g0) (tB6.out _ g0) (by decide) (by decide) (by decide) (by decide) (by omega) (by decide) kA.out kB.out).mono ?_
 rintro e w7 ⟨v,rfl,hO⟩
 obtain⟨vv,rv,rfl,hbk,hown,hszs,hMR⟩:=hO
 obtain⟨anw7,cnw7,hvn⟩:=own_form4x hown
 obtain⟨arw7,crw7,hvr⟩:=hMR.form
 rw[wakeJ_join]at hvr
 subst hvn
 subst hvr
 replace x0:=sB hbk x0
 replace x1:=sB hbk x1
 replace y0:=sB hbk y0
 replace y1:=sB hbk y1
 have g7:=g0.trans (hbk.mono g0.size)
 clear hbk hown hszs hMR
 go_wp2_with fail
 refine(jloop_any 1048576 (by omega) w7 (hE6.out _ g7) _ _ jA jB (tA6.out _ g7) (tB6.out _ g7) (by decide) (by decide) (by decide) (by decide) (by omega) (by decide)).mono ?_
 rintro e w8 ⟨v,rfl,hO⟩
 obtain⟨vv,rv,rfl,hbk,hown,hszs,hMR⟩:=hO
 obtain⟨anw8,cnw8,hvn⟩:=own_form4x hown
 obtain⟨arw8,crw8,hvr⟩:=hMR.form
 rw[wakeJ_join]at hvr
 subst hvn
 subst hvr
 replace x0:=sB hbk x0
 replace x1:=sB hbk x1
 replace y0:=sB hbk y0
 replace y1:=sB hbk y1
 have g8:=g7.trans (hbk.mono g7.size)
 clear hbk hown hszs hMR
 go_wp2_with fail
 refine(jsemi_any 1048576 (by omega) w8 (hE6.out _ g8) _ _ jA jB (tA6.out _ g8) (tB6.out _ g8) (by decide) (by decide) (by decide) (by decide) (by omega) kA.out kB.out).mono ?_
 rintro e w9 ⟨v,rfl,hO⟩
 obtain⟨vv,rv,rfl,hbk,hown,hszs,hMR⟩:=hO
 obtain⟨anw9,cnw9,hvn⟩:=own_form4x hown
 obtain⟨arw9,crw9,hvr⟩:=hMR.form
 rw[wakeJ_some true false]at hvr
 subst hvn
 subst hvr
 replace x0:=sB hbk x0
 replace x1:=sB hbk x1
 replace y0:=sB hbk y0
 replace y1:=sB hbk y1
 have g9:=g8.trans (hbk.mono g8.size)
 clear hbk hown hszs hMR
 go_wp2_with fail
 refine(janti_any 1048576 (by omega) w9 (hE6.out _ g9) _ _ jA jB (tA6.out _ g9) (tB6.out _ g9) (by decide) (by decide) (by decide) (by decide) (by omega) kA.out kB.out).mono ?_
 rintro e wA ⟨v,rfl,hO⟩
 obtain⟨vv,rv,rfl,hbk,hown,hszs,hMR⟩:=hO
 obtain⟨anwA,cnwA,hvn⟩:=own_form4x hown
 obtain⟨arwA,crwA,hvr⟩:=hMR.form
 rw[wakeJ_some false false]at hvr
 subst hvn
 subst hvr
 replace x0:=sB hbk x0
 replace x1:=sB hbk x1
 replace y0:=sB hbk y0
 replace y1:=sB hbk y1
 have gA:=g9.trans (hbk.mono g9.size)
 clear hbk hown hszs hMR
 go_wp2_with fail
 refine(jminus_any 1048576 (by omega) wA (hE6.out _ gA) _ _ jA jB (tA6.out _ gA) (tB6.out _ gA) (by decide) (by decide) (by decide) (by decide) (by omega) kA.out kB.out).mono ?_
 rintro e wB ⟨v,rfl,hO⟩
 obtain⟨vv,rv,rfl,hbk,hown,hszs,hMR⟩:=hO
 obtain⟨anwB,cnwB,hvn⟩:=own_form4x hown
 obtain⟨arwB,crwB,hvr⟩:=hMR.form
 rw[wakeJ_some false true]at hvr
 subst hvn
 subst hvr
 replace x0:=sB hbk x0
 replace x1:=sB hbk x1
 replace y0:=sB hbk y0
 replace y1:=sB hbk y1
 have gB:=gA.trans (hbk.mono gA.size)
 clear hbk hown hszs hMR
 have hfin:=Hd (hb06.out.trans (gB.mono hb06.out.size))
 go_wp2
 go_ret
 exact⟨rfl,hfin.out⟩
end Go.Proofs.YtmpldjbdhbapbaaGreatDoor.tab
