/- Contract of join.Left for a literal condition: the walk. -/
import Derived.Test.YtmpldjbdhbapbaaGreatDoorJnLeftD
import Derived.Test.YtmpldjbdhbapbaaGreatDoorJnLeftP
import Derived.Test.YtmpldjbdhbapbaaGreatDoorJnD
import Derived.Test.YtmpldjbdhbapbaaGreatDoorTabFree
set_option linter.unusedSimpArgs false
set_option linter.unusedVariables false
set_option maxRecDepth 100000
set_option maxHeartbeats 8000000
namespace Go.Proofs.YtmpldjbdhbapbaaGreatDoor.tab
open Go.ChangeShapes Go.WideShapes Go.ChangeAt Go.RowKit kit dec val
open hyp (RowA TextsA CellsStay stay_of_below textsV textsV_length own_row)
theorem JnW.left{wq w w1 W:World}{N eb:Nat}{names rv:Value}{yes:Bool}{L:List (List V)}{l:List (List V×Bool)}(h:JnW wq w N names rv L)(h1:Below w.heap.size w w1)
 (hJ:LeftJ N wq.heap.size names (fun b=>(wq.heap.size<b∧b<w.heap.size)∧b≠eb) yes L w w1 l W)(he:Blk w eb #[.int .i64 0] 41)(hne:eb≠wq.heap.size):
 Blk W eb #[.int .i64 0] 41∧∃rv2,JnW wq W N names rv2 (L++if yes=true then l.map (·.1) else[]):=by
 obtain⟨rv2,g1,g2,g3,g4⟩:=hJ
 have a1:=h.below.size
 have a2:=h1.size
 have a3:=g3.size
 have htl:=h.tb.lt
 refine⟨(g3.block eb (by have:=he.lt;omega) (fun hc=>?_)).trans ((h1.block eb he.lt).trans he),rv2,?_,g1,g2.mono fun b hb=>?_⟩
 ·rcases hc with hc|hc
  ·exact hne hc
  ·exact hc.2 rfl
 ·have hb:=h.below.trans (h1.mono a1)
  exact⟨g3.os.trans hb.os,g3.tape.trans hb.tape,g3.output.trans hb.output,Nat.le_trans hb.size a3,fun k hk=>(g3.block k (by omega) (fun hc=>by
   rcases hc with hc|hc
   ·omega
   ·have:=hc.1.1
    omega)).trans (hb.block k hk)⟩
 ·rcases hb with hb|hb
  ·exact⟨hb.1.1,by have:=hb.1.2;omega⟩
  ·exact⟨by have:=hb.1;omega,hb.2⟩
theorem jleft_any (N : Nat) (hN : N ≤ 1048576) (w : World) (hE : Env w) (va vb : Value) (A B : Tab) (lang : Int) (b : Bool) (tp : TypeId) (pl : Value) (hA : TabA w N va A) (hB : TabA w N vb B) (a1 : A.vars.length ≤ 100000) (a2 : A.rows.length ≤ 1048576) (b1 : B.vars.length ≤ 100000) (b2 : B.rows.length ≤ 1048575) (hN64 : 64 ≤ N) (hrs : A.rows.length * (B.rows.length + 1) ≤ 1048576)
    (kA:∀r∈A.rows,wtL r≤1100000)(kB:∀r∈B.rows,wtL r≤1100000):
    Calls Tryz.prog 8 #[.int .i64 lang,va,vb,.agg #[.int .i64 1,.string ByteArray.empty,.int .i64 1,.bool b,.int .i64 0,.string ByteArray.empty,.string ByteArray.empty,.slice none 0 0,.bool false,.slice none 0 0,.slice none 0 0,.slice none 0 0,.slice none 0 0],.iface tp pl] w fun e w'=>∃v,e=.returned (.tuple #[v,.int .i64 0])∧TabO w w' N v (leftZ b A B):=by
  obtain⟨vv,rv,rfl,hV,hR⟩:=hA.ex
  obtain⟨vv2,rv2,rfl,hV2,hR2⟩:=hB.ex
  obtain⟨av,cv,rfl,-⟩:=hV.form
  obtain⟨av2,cv2,rfl,-⟩:=hV2.form
  obtain⟨ar,cr,rfl,-,-⟩:=hR.form
  obtain⟨ar2,cr2,rfl,-,-⟩:=hR2.form
  have bw:Below w.heap.size w w:=Below.refl _ _
  have sw:w.heap.size=w.heap.size:=rfl
  obtain⟨z1,ez1⟩:∃z,w.alloc (.cells #[.int .i64 lang] 3)=z:=⟨_,rfl⟩
  have bz1:Below w.heap.size w z1:=by rw[←ez1];exact bw.alloc bw.size _
  have sz1:z1.heap.size=(w.heap.size+1):=by rw[←ez1,World.size_alloc,sw]
  have qz1:Blk z1 w.heap.size #[.int .i64 lang] 3:=by
    have:=Blk.new w #[.int .i64 lang] 3
    rw[sw,ez1]at this
    exact this
  obtain⟨z2,ez2⟩:∃z,z1.alloc (.cells #[.slice av A.vars.length cv,.slice ar A.rows.length cr] 25)=z:=⟨_,rfl⟩
  have bz2:Below w.heap.size w z2:=by rw[←ez2];exact bz1.alloc bz1.size _
  have sz2:z2.heap.size=(w.heap.size+1+1):=by rw[←ez2,World.size_alloc,sz1]
  have qz2:Blk z2 (w.heap.size+1) #[.slice av A.vars.length cv,.slice ar A.rows.length cr] 25:=by
    have:=Blk.new z1 #[.slice av A.vars.length cv,.slice ar A.rows.length cr] 25
    rw[sz1,ez2]at this
    exact this
  obtain⟨z3,ez3⟩:∃z,z2.alloc (.cells #[.slice av2 B.vars.length cv2,.slice ar2 B.rows.length cr2] 25)=z:=⟨_,rfl⟩
  have bz3:Below w.heap.size w z3:=by rw[←ez3];exact bz2.alloc bz2.size _
  have sz3:z3.heap.size=(w.heap.size+1+1+1):=by rw[←ez3,World.size_alloc,sz2]
  have qz3:Blk z3 (w.heap.size+1+1) #[.slice av2 B.vars.length cv2,.slice ar2 B.rows.length cr2] 25:=by
    have:=Blk.new z2 #[.slice av2 B.vars.length cv2,.slice ar2 B.rows.length cr2] 25
    rw[sz2,ez3]at this
    exact this
  obtain⟨z4,ez4⟩:∃z,z3.alloc (.cells #[.int .i64 1,.string ByteArray.empty,.int .i64 1,.bool b,.int .i64 0,.string ByteArray.empty,.string ByteArray.empty,.slice none 0 0,.bool false,.slice none 0 0,.slice none 0 0,.slice none 0 0,.slice none 0 0] 39)=z:=⟨_,rfl⟩
  have bz4:Below w.heap.size w z4:=by rw[←ez4];exact bz3.alloc bz3.size _
  have sz4:z4.heap.size=(w.heap.size+1+1+1+1):=by rw[←ez4,World.size_alloc,sz3]
  have qz4:Blk z4 (w.heap.size+1+1+1) #[.int .i64 1,.string ByteArray.empty,.int .i64 1,.bool b,.int .i64 0,.string ByteArray.empty,.string ByteArray.empty,.slice none 0 0,.bool false,.slice none 0 0,.slice none 0 0,.slice none 0 0,.slice none 0 0] 39:=by
    have:=Blk.new z3 #[.int .i64 1,.string ByteArray.empty,.int .i64 1,.bool b,.int .i64 0,.string ByteArray.empty,.string ByteArray.empty,.slice none 0 0,.bool false,.slice none 0 0,.slice none 0 0,.slice none 0 0,.slice none 0 0] 39
    rw[sz3,ez4]at this
    exact this
  obtain⟨z5,ez5⟩:∃z,z4.alloc (.cells #[.iface tp pl] 64)=z:=⟨_,rfl⟩
  have bz5:Below w.heap.size w z5:=by rw[←ez5];exact bz4.alloc bz4.size _
  have sz5:z5.heap.size=(w.heap.size+1+1+1+1+1):=by rw[←ez5,World.size_alloc,sz4]
  have qz5:Blk z5 (w.heap.size+1+1+1+1) #[.iface tp pl] 64:=by
    have:=Blk.new z4 #[.iface tp pl] 64
    rw[sz4,ez5]at this
    exact this
  obtain⟨z6,ez6⟩:∃z,z5.alloc (.cells #[.slice none 0 0,.slice none 0 0] 25)=z:=⟨_,rfl⟩
  have bz6:Below w.heap.size w z6:=by rw[←ez6];exact bz5.alloc bz5.size _
  have sz6:z6.heap.size=(w.heap.size+1+1+1+1+1)+1:=by rw[←ez6,World.size_alloc,sz5]
  have qz6:Blk z6 (w.heap.size+1+1+1+1+1) #[.slice none 0 0,.slice none 0 0] 25:=by
    have:=Blk.new z5 #[.slice none 0 0,.slice none 0 0] 25
    rw[sz5,ez6]at this
    exact this
  replace qz1:=(show Blk z2 _ _ _ from by rw[←ez2];exact qz1.alloc _)
  replace qz1:=(show Blk z3 _ _ _ from by rw[←ez3];exact qz1.alloc _)
  replace qz1:=(show Blk z4 _ _ _ from by rw[←ez4];exact qz1.alloc _)
  replace qz1:=(show Blk z5 _ _ _ from by rw[←ez5];exact qz1.alloc _)
  replace qz1:=(show Blk z6 _ _ _ from by rw[←ez6];exact qz1.alloc _)
  replace qz2:=(show Blk z3 _ _ _ from by rw[←ez3];exact qz2.alloc _)
  replace qz2:=(show Blk z4 _ _ _ from by rw[←ez4];exact qz2.alloc _)
  replace qz2:=(show Blk z5 _ _ _ from by rw[←ez5];exact qz2.alloc _)
  replace qz2:=(show Blk z6 _ _ _ from by rw[←ez6];exact qz2.alloc _)
  replace qz3:=(show Blk z4 _ _ _ from by rw[←ez4];exact qz3.alloc _)
  replace qz3:=(show Blk z5 _ _ _ from by rw[←ez5];exact qz3.alloc _)
  replace qz3:=(show Blk z6 _ _ _ from by rw[←ez6];exact qz3.alloc _)
  replace qz4:=(show Blk z5 _ _ _ from by rw[←ez5];exact qz4.alloc _)
  replace qz4:=(show Blk z6 _ _ _ from by rw[←ez6];exact qz4.alloc _)
  replace qz5:=(show Blk z6 _ _ _ from by rw[←ez6];exact qz5.alloc _)
  have cC:=Hd (xcheck_lit z6 (hE.below bz6) lang b)
  have cG:=Hd (fun V=>xhasagg_lit V b)
  have hAh:=Hd (fun V (h:Below w.heap.size w V)=>hA.stay h)
  have hBh:=Hd (fun V (h:Below w.heap.size w V)=>hB.stay h)
  have hEh:=Hd (fun V (h:Below w.heap.size w V)=>hE.below h)
  have hRh:=Hd (fun V (h:Below w.heap.size w V)=>hR.stay h)
  have hR2h:=Hd (fun V (h:Below w.heap.size w V)=>hR2.stay h)
  have hsA:=Hd hV.size
  have hsB:=Hd hV2.size
  have hn:=fun W=>not_nil W tp pl
  have l0:=qz1.cell 0 rfl
  have i0:=qz5.cell 0 rfl
  have x0:=qz4.cell 0 rfl
  have x1:=qz4.cell 1 rfl
  have x2:=qz4.cell 2 rfl
  have x3:=qz4.cell 3 rfl
  have x4:=qz4.cell 4 rfl
  have x5:=qz4.cell 5 rfl
  have x6:=qz4.cell 6 rfl
  have x7:=qz4.cell 7 rfl
  have x8:=qz4.cell 8 rfl
  have x9:=qz4.cell 9 rfl
  have x10:=qz4.cell 10 rfl
  have x11:=qz4.cell 11 rfl
  have x12:=qz4.cell 12 rfl
  replace ez1:=Hd ez1
  replace ez2:=Hd ez2
  replace ez3:=Hd ez3
  replace ez4:=Hd ez4
  replace ez5:=Hd ez5
  replace ez6:=Hd ez6
  replace qz1:=Hd qz1
  replace qz2:=Hd qz2
  replace qz3:=Hd qz3
  replace qz4:=Hd qz4
  replace qz5:=Hd qz5
  replace qz6:=Hd qz6
  replace kA:=Hd kA
  replace kB:=Hd kB
  replace bz6:=Hd bz6
  clear hA hB hV hV2 hR hR2 hE bw sw bz1 bz2 bz3 bz4 bz5 sz1 sz2 sz3 sz4 sz5 sz6
  go_enter Tryz.func8,Tryz.ntmps8
  go_upto_region 1 with fail
  rw[ez1.out,ez2.out,ez3.out,ez4.out,ez5.out,ez6.out]
  clear ez1 ez2 ez3 ez4 ez5 ez6
  go_wp2_with fail
  refine cC.out.mono ?_
  rintro e z7 ⟨rfl,hb67⟩
  clear x0 x1 x2 x3 x4 x5 x6 x7 x8 x9 x10 x11 x12
  have q4:Blk z7 _ _ _:=(hb67.block _ qz4.out.lt).trans qz4.out
  have x0:=q4.cell 0 rfl
  have x1:=q4.cell 1 rfl
  have x2:=q4.cell 2 rfl
  have x3:=q4.cell 3 rfl
  have x4:=q4.cell 4 rfl
  have x5:=q4.cell 5 rfl
  have x6:=q4.cell 6 rfl
  have x7:=q4.cell 7 rfl
  have x8:=q4.cell 8 rfl
  have x9:=q4.cell 9 rfl
  have x10:=q4.cell 10 rfl
  have x11:=q4.cell 11 rfl
  have x12:=q4.cell 12 rfl
  replace hb67:=Hd hb67
  clear cC l0 i0 q4
  go_wp2_with fail
  refine(cG.out z7).mono ?_
  rintro e w1 ⟨rfl,hb7⟩
  clear x0 x1 x2 x3 x4 x5 x6 x7 x8 x9 x10 x11 x12
  have hb61:=hb67.out.trans (hb7.mono hb67.out.size)
  have hal:=bz6.out.trans (hb61.mono bz6.out.size)
  have hql:=blk_stayL qz1.out hb61
  have hq0:=blk_stayL qz2.out hb61
  have hq1:=blk_stayL qz3.out hb61
  have hqo:=blk_stayL qz4.out hb61
  have hqi:=blk_stayL qz5.out hb61
  have hq2:=blk_stayL qz6.out hb61
  have hs1:(w.heap.size+1+1+1+1+1)+1≤w1.heap.size:=hq2.lt
  have cT:=jtogether_any N hN w1 (hEh.out _ hal) _ _ A B (hAh.out _ hal) (hBh.out _ hal) a1 a2 b1 (by omega)
  have x0:=hq0.cell 0 rfl
  have x1:=hq0.cell 1 rfl
  have y0:=hq1.cell 0 rfl
  have y1:=hq1.cell 1 rfl
  obtain⟨ok,hok⟩:∃ok,jokZ A B=ok:=⟨_,rfl⟩
  rw[hok]at cT
  have hR1:=Hd (hRh.out _ hal)
  have hR21:=Hd (hR2h.out _ hal)
  have hB1:=Hd (hBh.out _ hal)
  have hE1:=Hd (hEh.out _ hal)
  replace hok:=Hd hok
  replace cT:=Hd cT
  replace hal:=Hd hal
  replace hql:=Hd hql
  replace hq0:=Hd hq0
  replace hq1:=Hd hq1
  replace hqo:=Hd hqo
  replace hqi:=Hd hqi
  replace hq2:=Hd hq2
  replace hs1:=Hd hs1
  clear hb61 hb7 hb67 cG hAh hBh hRh hR2h hEh qz1 qz2 qz3 qz4 qz5 qz6 bz6
  go_wp2_with fail
  refine cT.out.mono ?_
  rintro e w2 ⟨v,rfl,vn,vp,vs,rfl,hb2,hnm,hpl,hpr⟩
  clear cT
  obtain⟨an,cn,rfl⟩:=own_form4x hnm
  obtain⟨ap,cp,rfl⟩:=own_form4x hpl
  obtain⟨asl,csl,rfl⟩:=own_form4x hpr
  have hbA:=hb2.alloc hb2.size (.cells #[.slice an (B.vars.foldl addN A.vars).length cn,.slice ap (atN A.vars B.vars).length cp,.slice asl (shK A.vars B.vars B.vars.length).length csl] 55)
  replace x0:=sB hbA x0
  replace x1:=sB hbA x1
  replace y0:=sB hbA y0
  replace y1:=sB hbA y1
  have hq24:Blk (w2.alloc (.cells #[.slice an (B.vars.foldl addN A.vars).length cn,.slice ap (atN A.vars B.vars).length cp,.slice asl (shK A.vars B.vars B.vars.length).length csl] 55)) (w.heap.size+1+1+1+1+1) #[.slice none 0 0,.slice none 0 0] 25:=(hbA.block _ hq2.out.lt).trans hq2.out
  have hp4:=Hd (Blk.new w2 #[.slice an (B.vars.foldl addN A.vars).length cn,.slice ap (atN A.vars B.vars).length cp,.slice asl (shK A.vars B.vars B.vars.length).length csl] 55)
  replace hbA:=Hd hbA
  replace hnm:=Hd hnm
  replace hpl:=Hd hpl
  replace hpr:=Hd hpr
  have hb2s:=hb2.size
  replace hb2:=Hd hb2
  cases ok with
  | false =>
    have hz:leftZ b A B=⟨[],[]⟩:=by
      unfold leftZ
      rw[if_neg (fun h=>by
        have h2:=hok.out
        unfold jokZ at h2
        simp[h.1,h.2.1,h.2.2]at h2)]
    replace hz:=Hd hz
    have f2:=Blk.free hq24
    have z0:=hq24.cell 0 rfl
    have z1:=hq24.cell 1 rfl
    clear x0 x1 y0 y1
    go_wp2
    have q0:=hq24.set 0 (.slice none 0 0)
    have hfin:=q0.set 1 (.slice none 0 0)
    have hbf:=((hal.out.trans (hbA.out.mono hal.out.size)).setCell (p:=⟨(w.heap.size+1+1+1+1+1),0,none⟩) (by simp;omega) (.slice none 0 0)).setCell (p:=⟨(w.heap.size+1+1+1+1+1),1,none⟩) (by simp;omega) (.slice none 0 0)
    refine bodyPost_ret (v:=.tuple #[.agg #[.slice none 0 0,.slice none 0 0],.int .i64 0]) (res2 rfl _ _ (w.heap.size+1+1+1+1+1) 25 _ (0,0) _ _ rfl rfl hfin.eq Tryz.underlying25 rfl infoTab) rfl ⟨_,rfl,?_⟩
    rw[hz.out]
    exact tabO_zero hbf
  |true=>
        obtain⟨hmA,hmB,h64⟩:=jok_yes hok.out
        have own4:Hid ((w2.alloc (.cells #[.slice an (B.vars.foldl addN A.vars).length cn,.slice ap (atN A.vars B.vars).length cp,.slice asl (shK A.vars B.vars B.vars.length).length csl] 55)).ownsRow w.heap.size 9 1 (.slice an (B.vars.foldl addN A.vars).length cn) (B.vars.foldl addN A.vars).length (textsV (B.vars.foldl addN A.vars))):=Hd (own_low4 (hnm.out.alloc (.cells #[.slice an (B.vars.foldl addN A.vars).length cn,.slice ap (atN A.vars B.vars).length cp,.slice asl (shK A.vars B.vars B.vars.length).length csl] 55)) (by have:=hs1.out;omega))
        have pl4:=Hd (own_row (by rw[numsN_length];exact hpl.out.alloc (.cells #[.slice an (B.vars.foldl addN A.vars).length cn,.slice ap (atN A.vars B.vars).length cp,.slice asl (shK A.vars B.vars B.vars.length).length csl] 55)):RowA (w2.alloc (.cells #[.slice an (B.vars.foldl addN A.vars).length cn,.slice ap (atN A.vars B.vars).length cp,.slice asl (shK A.vars B.vars B.vars.length).length csl] 55)) (w2.alloc (.cells #[.slice an (B.vars.foldl addN A.vars).length cn,.slice ap (atN A.vars B.vars).length cp,.slice asl (shK A.vars B.vars B.vars.length).length csl] 55)).heap.size (.slice ap (atN A.vars B.vars).length cp) (numsN (atN A.vars B.vars)))
        have pr4:=Hd (pair_of (hpr.out.alloc (.cells #[.slice an (B.vars.foldl addN A.vars).length cn,.slice ap (atN A.vars B.vars).length cp,.slice asl (shK A.vars B.vars B.vars.length).length csl] 55)))
        have hR4:=Hd (hR1.out.stay hbA.out)
        have hR24:=Hd (hR21.out.stay hbA.out)
        have hB24:=Hd (hB1.out.stay hbA.out)
        have hE4:=Hd (hE1.out.below hbA.out)
        have hB4:=Hd (hal.out.trans (hbA.out.mono hal.out.size))
        obtain⟨hnA,hrA⟩:=may_rows hmA
        obtain⟨hnB,hrB⟩:=may_rows hmB
        obtain⟨-,-,hdA⟩:=names_parts hnA
        obtain⟨hB9,-,hdB⟩:=names_parts hnB
        have hz:leftZ b A B=leftT b A B:=by unfold leftZ;rw[if_pos ⟨hmA,hmB,h64⟩]
        replace hz:=Hd hz
        have hsz:∀s∈B.vars.foldl addN A.vars,s.size≤maxLen:=fun s hs=>by
          rcases(mem_foldN B.vars A.vars).1 hs with h|h
          · exact hsA.out s h
          · exact hsB.out s h
        have kbB:∀r∈B.rows,(encL (cellsJ r ((comN A.vars B.vars).map fun x=>B.vars.idxOf x))).length≤10000000:=fun r hr=>cells_light hdB (com_nodup hdB) (fun x hx=>(mem_com.1 hx).1) (row_len (hrB r hr)) (kB.out r hr)
        have kaA:∀r∈A.rows,(encL (cellsJ r ((comN A.vars B.vars).map fun x=>A.vars.idxOf x))).length≤10000000:=fun r hr=>cells_light hdA (com_nodup hdB) (fun x hx=>(mem_com.1 hx).2) (row_len (hrA r hr)) (kA.out r hr)
        replace kbB:=Hd kbB
        replace kaA:=Hd kaA
        clear kA kB hB1 hE1
        have hql4:=Hd (blk_stayL hql.out hbA.out)
        have hqo4:=Hd (blk_stayL hqo.out hbA.out)
        have hqi4:=Hd (blk_stayL hqi.out hbA.out)
        go_upto_region 6 with fail
        obtain⟨p2,hp2⟩:∃p2,w2.heap.size=p2:=⟨_,rfl⟩
        rw[hp2]at hp4
        try rw[hp2]
        replace hp2:=Hd hp2
        generalize hw4:w2.alloc (.cells #[.slice an (B.vars.foldl addN A.vars).length cn,.slice ap (atN A.vars B.vars).length cp,.slice asl (shK A.vars B.vars B.vars.length).length csl] 55)=w4 at *
        obtain⟨n,hn⟩:∃n,(B.vars.foldl addN A.vars).length=n:=⟨_,rfl⟩
        have hn64:n≤64:=by omega
        obtain⟨np,hnp⟩:∃np,(atN A.vars B.vars).length=np:=⟨_,rfl⟩
        have cH:=hashed_any N hN w4 hE4.out _ (.slice asl (shK A.vars B.vars B.vars.length).length csl) A B an ap (B.vars.foldl addN A.vars).length cn (atN A.vars B.vars).length cp hB24.out pr4.out hmB b2 kbB.out
        rw[hn,hnp]at cH hp4 ⊢
        replace hn:=Hd hn
        replace hnp:=Hd hnp
        replace cH:=Hd cH
        replace hw4:=Hd hw4
        have hq24b:=Hd hq24
        have hs1b:=hs1.out
        have hdA2:=Hd hdA
        have hdB2:=Hd hdB
        have hrA2:=Hd hrA
        have hrB2:=Hd hrB
        have hsz2:=Hd hsz
        have hp40:=hp4.out.cell 0 rfl
        have hp41:=hp4.out.cell 1 rfl
        have hp42:=hp4.out.cell 2 rfl
        have hq24lt:=hq24.lt
        clear hdA hdB hrA hrB hsz hnA hnB hq24 hal hbA hnm hpl hpr hq0 hq1 hq2 hb2 hR1 hR21 hs1 hB24 hql hqo hqi
        go_wp2_with fail
        with_reducible refine cH.out.mono ?_
        rintro e w5 ⟨w0,b0,hx,nn,f,vl,vv5,rv5,rfl,hve,hb5,k1,k2,k3,hH⟩
        injection hve with hve
        have hve2:=Array.mk.inj hve
        simp only[List.cons.injEq,and_true]at hve2
        obtain⟨rfl,rfl⟩:=hve2
        clear hve cH
        have hst5:=stay_of_below hb5
        have hqlb:=Hd (blk_stayL hql4.out hb5)
        have hqob:=Hd (blk_stayL hqo4.out hb5)
        have hqib:=Hd (blk_stayL hqi4.out hb5)
        have hp2l:p2<w5.heap.size:=Nat.lt_of_lt_of_le hp4.out.lt hb5.size
        clear hql4 hqo4 hqi4
        have hB5:=Hd (hB4.out.trans (hb5.mono hB4.out.size))
        have own5:=Hd (own_keep own4.out hb5)
        have pl5:=Hd ((pl4.out.stay hst5).mono hb5.size)
        have pr5:=Hd (PairR.stay pr4.out hb5)
        have hR5:=Hd (hR4.out.stay hb5)
        have hR25:=Hd (hR24.out.stay hb5)
        have hE5:=Hd (hE4.out.below hb5)
        have hq25b:Hid (Blk w5 (w.heap.size+1+1+1+1+1) #[.slice none 0 0,.slice none 0 0] 25):=Hd ((hb5.block _ hq24lt).trans hq24b.out)
        replace hp40:=hst5.cell hp40
        replace x1:=hst5.cell x1
        have hH5:=Hd hH
        have hs5:=Hd hb5.size
        have hRA:Hid (∀j (hj:j<A.rows.length),∃b off a c,ar=some ⟨b,off,none⟩∧b<w5.heap.size∧w5.cell? ⟨b,off+j,none⟩=some (.slice a A.rows[j].length c)∧LA w5 N (.slice a A.rows[j].length c) A.rows[j]):=Hd (by
          obtain⟨_,_,e,-,h⟩:=hR5.out.form
          injection e with e1 _ _
          subst e1
          exact h)
        have hq25lt:=Hd hq25b.out.lt
        clear hst5 hb5 hH own4 pl4 pr4 hR4 hR24 hE4 hB4 hq24b hq24lt k1 k2 k3 hp4 hp41 hp42
        obtain⟨wb,rfl⟩:∃wb:World,wb=w5:=⟨_,rfl⟩
        have hJ0:Hid (JnW wb ((wb.alloc (.cells #[.slice an n cn,.slice none 0 0] 25)).alloc (.cells #[.int .i64 0] 41)) N (.slice an n cn) (.slice none 0 0) []):=Hd ((JnW.start wb N (.slice an n cn)).stay ((Below.refl _ _).alloc (Nat.le_refl _) _))
        rw[←leftK_zero b A B]at hJ0
        have heR0:Hid (Blk ((wb.alloc (.cells #[.slice an n cn,.slice none 0 0] 25)).alloc (.cells #[.int .i64 0] 41)) (wb.heap.size+1) #[.int .i64 0] 41):=Hd (by
          have:=Blk.new (wb.alloc (.cells #[.slice an n cn,.slice none 0 0] 25)) #[.int .i64 0] 41
          rw[World.size_alloc]at this
          exact this)
        obtain⟨eb,heb⟩:∃eb,wb.heap.size+1=eb:=⟨_,rfl⟩
        rw[heb]at heR0
        have hebn:Hid (eb=wb.heap.size+1):=Hd heb.symm
        have hp40b:=Hd hp40
        have own5n:=own5.out
        rw[hn.out]at own5n
        replace own5n:=Hd own5n
        have hH5n:=hH5.out
        have pl5n:=pl5.out
        rw[hnp.out]at pl5n
        replace hH5n:=Hd hH5n
        replace pl5n:=Hd pl5n
        have hnh:=hn
        have hnph:=hnp
        clear hn hnp own5 hH5 pl5 hR5
        have hJb:=hJ0.out.below
        replace x1:=sB hJb x1
        clear hJb
        have hAn:A.vars.length≤n:=by
          obtain⟨m,hm⟩:=foldN_prefix B.vars A.vars
          rw[←hnh.out,hm,List.length_append];omega
        go_wp2
        try rw[heb]
        replace heb:=Hd heb
        go_loopw [51] (fun i wr=>∃(k:Nat) (rv:Value),k≤A.rows.length∧i=.int .i64 (k:Int)∧Hid (JnW wb wr N (.slice an n cn) rv (leftK b A B k))∧Hid (Blk wr eb #[.int .i64 0] 41)) (fun i _=>A.rows.length-(intOf i).toNat)
        case atStart=>exact⟨0,_,Nat.zero_le _,rfl,hJ0,heR0⟩
        case round=>
          clear hJ0 heR0 x1 hp40
          obtain⟨i,rv,hi,rfl,hJ,heR⟩:=hrel
          obtain⟨w6,rfl⟩:∃w6:World,w6=wr:=⟨_,rfl⟩
          by_cases hlt:i<A.rows.length
          · have hki : (i : Int) < (A.rows.length : Int) := by omega
            have hi1:=Hd (show i+1≤A.rows.length from hlt)
            obtain⟨b1,o1,a1,c1,rfl,hb1,hcell,hla1⟩:=hRA.out i hlt
            replace hcell:=sB hJ.out.below hcell
            have hnext:=leftK_next b A B hlt
            have hrw:=hrA2.out _ (List.getElem_mem hlt)
            have kr:=kaA.out _ (List.getElem_mem hlt)
            have hrl:=row_len hrw
            have hpad:=pad_row (B:=B.vars) hdA2.out hrl
            rw[hnh.out]at hpad
            have hlen9:(leftK b A B i).length+(B.rows.length+1)≤1048576:=by
              have h1:=leftK_len b A B i (Nat.le_of_lt hlt)
              have h2:=Nat.mul_le_mul_right (B.rows.length+1) (show i+1≤A.rows.length from hlt)
              rw[Nat.succ_mul]at h2
              omega
            have hlen:(leftK b A B i).length+B.rows.length≤1048576:=by omega
            obtain⟨aoL,cpL,hrv⟩:=hJ.out.slice
            subst hrv
            have hD:=left_do N hN n wb w6 hE5.out hJ.out.below w.heap.size (w.heap.size+1+1+1) (w.heap.size+1+1+1+1) p2 eb wb.heap.size lang b tp pl an n cn _ (fun k=>(wb.heap.size<k∧k<w6.heap.size)∧k≠eb) (leftK b A B i) B.rows.length hlen hqlb.out hqob.out hqib.out hp40b.out heR.out hJ.out.tb (hJ.out.rows.free heR.out (by decide) (by decide)) (fun k hk=>hk.1.2) (fun hk=>by have:=hk.1.1;omega) (fun hk=>hk.2 rfl) (by have:=hebn.out;omega) (fun k hk=>by
              rcases hk with hk|hk
              · omega
              · have := hk.1.1
                omega)
            have cW:=with_any N hN w0 wb w6 hE5.out hJ.out.below b0 hx nn f A.vars B.vars B.rows _ _ an ap ar2 n cn np cp cr2 _ vl _ (A.rows[i]'hlt) hdA2.out hdB2.out hnh.out (by omega) hB9 rfl hH5n.out pl5n.out pr5.out hR25.out hrB2.out b2 hla1 hrw kr _ _ (fun k=>k=wb.heap.size∨((wb.heap.size<k∧k<w6.heap.size)∧k≠eb)) _ _ (fun k hk=>by
              have:=hJ.out.tb.lt
              rcases hk with hk|hk
              · omega
              · have := hk.1
                omega) hD
            rw[near_parts]at cW
            replace cW:=Hd cW
            have tb1:=hJ.out.tb.cell 1 rfl
            have hlaw:=Hd hla1
            replace hnext:=Hd hnext
            replace hpad:=Hd hpad
            replace hlen9:=Hd hlen9
            replace hrl:=Hd hrl
            clear hD hrw kr hlen hla1
            go_wp2_with fail
            refine cW.out.mono ?_
            rintro e w7 ⟨rfl,w8,hb8,hJU⟩
            rcases hJU with hJU|⟨_,_,_,_,hF⟩
            case inr=>exact hF.elim
            obtain⟨he7,rv2,hJ2⟩:=hJ.out.left hb8 hJU heR.out (by have:=hebn.out;omega)
            rw[parts_rows]at hJ2
            obtain⟨js,hjs⟩:∃js,(if b=true then partR A B (A.rows[i]'hlt) else[])=js:=⟨_,rfl⟩
            have hJ3:JnW wb w7 N (.slice an n cn) rv2 (leftK b A B i++js):=by rw[←hjs];exact hJ2
            have hb17:=hJ3.below
            have e0:=he7.cell 0 rfl
            obtain⟨ao7,cp7,hrv7⟩:=hJ3.slice
            subst hrv7
            have t71:=hJ3.tb.cell 1 rfl
            clear hJ2 hJU hb8 cW hcell hJ heR tb1
            by_cases hj0:js=[]
            · have hnx : leftK b A B (i + 1) = leftK b A B i ++ [padR A B (A.rows[i]'hlt)] := by
                rw[hnext.out]
                congr 1
                cases b with
                |false=>rfl
                |true=>exact leftR_none (by rw[if_pos rfl]at hjs;rw[hjs,hj0])
              subst hj0
              rw[List.append_nil]at hJ3 t71
              have hJ:=Hd hJ3
              have heR:=Hd he7
              have hlen:(leftK b A B i).length+1≤1048576:=by have:=hlen9.out;omega
              have hla:=Hd (hlaw.out.stay hb17)
              have hxl:(A.rows[i]'hlt).length≤n:=by rw[hrl.out];exact hAn
              have hsub:IntKind.i64.wrap ((n:Int)-((A.rows[i]'hlt).length:Int))=((n-(A.rows[i]'hlt).length:Nat):Int):=by
                rw[IntWalk.i64_in _ (by omega)];omega
              have hsubn:(A.rows[i]'hlt).length+(n-(A.rows[i]'hlt).length)≤N:=by omega
              have hp4v:=sB hb17 hp40b.out
              have hcell:=e0
              unfold padR at hnx
              rw[←hpad.out]at hnx
              replace hnx:=Hd hnx
              obtain⟨wv,rfl⟩:∃z:World,z=w7:=⟨_,rfl⟩
              have hsz:=hb17.size
              clear hJ3 he7 hb17 hjs hlaw hpad hrl hnext
              generalize leftK b A B i=L1 at *
              generalize (A.rows[i]'hlt)=x at *
              go_upto_region 17 with fail
              clear e0 t71
              obtain⟨rv,hrv⟩:∃rv,Value.slice ao7 L1.length cp7=rv:=⟨_,rfl⟩
              rw[hrv]at hJ
              replace hrv:=Hd hrv
              have hal:Below wv.heap.size wv wv.drew:=below_drewN (Below.refl _ _) 1
              have hJV:=hJ.out.stay hal
              have hMV:=(hJ.out.rows.free heR.out (by decide) (by decide)).stay (fun b hS hlt=>hal.block b hlt)
              have heV:Blk wv.drew eb #[.int .i64 0] 41:=heR.out
              have hebl:=heR.out.lt
              have hlaV:=hla.out.stay hal
              have htlt:=hJ.out.tb.lt
              have hwV:wv.drew.heap.size=wv.heap.size:=rfl
              obtain⟨q0,hq0⟩:∃q0,wv.heap.size=q0:=⟨_,rfl⟩
              have hS0:Blk wv.drew wb.heap.size #[.slice an n cn,rv] 25∧wv.drew.cell? ⟨p2,0,none⟩=some (.slice an n cn):=⟨hJV.tb,hp4v⟩
              refine wp_region_late [14] (S:=fun V=>Blk V wb.heap.size #[.slice an n cn,rv] 25∧V.cell? ⟨p2,0,none⟩=some (.slice an n cn)) (by kernel_rfl) hS0 (fun hS=>?_)
              have hV:=hS0
              clear hS0 hal hJ hla hp4v hcell heR
              rw[hq0]at hMV hwV htlt hebl
              generalize wv.drew=V0 at *
              have hcall:=Hd (jrow_any N (by omega) V0 _ _ hlaV)
              refine tlH 0 ?_ rfl (fun w' hS=>?_) hS ?_
              rotate_left
              ·
                skip
                go_simp
                try with_reducible rfl
              refine tlH 1 ?_ rfl (fun w' hS=>?_) hS ?_
              rotate_left
              ·
                have z0:=hS.1.cell 0 rfl;have z1:=hS.1.cell 1 rfl
                go_simp
                try with_reducible rfl
              refine tlS [2,4] ?_
              iterate 2
                refine tlC ?_ rfl (fun w' hS=>?_) hS ?_
                rotate_left
                ·
                  skip
                  go_simp
                  try with_reducible rfl
              refine tlH 5 ?_ rfl (fun w' hS=>?_) hS ?_
              rotate_left
              ·
                have z2:=hS.2
                go_simp
                try with_reducible rfl
              refine tlS [6,7,8,9] ?_
              iterate 4
                refine tlC ?_ rfl (fun w' hS=>?_) hS ?_
                rotate_left
                ·
                  skip
                  go_simp
                  try with_reducible rfl
              refine wpAnyL_ready (i:=3) (by kernel_rfl) rfl (fun K hK=>?_)
              clear hS
              go_simp
              refine(hcall.out).mono ?_
              rintro e w5 ⟨a9,c9,rfl,hb5,hl5⟩
              go_wp2_with fail
              refine hKo hK (⟨(hb5.block _ hV.1.lt).trans hV.1,sB hb5 hV.2⟩) (fun hS=>?_)
              clear hK K
              have hJ5:=hJV.stay hb5
              have hM5:=hMV.stay (fun b hS hlt=>hb5.block b hlt)
              have hs5:=hb5.size
              have hV5:=sB hb5 hV.2
              have he5:Blk w5 eb _ _:=(hb5.block _ heV.lt).trans heV
              clear hcall hV hJV hMV hlaV
              refine wpAnyL_ready (i:=10) (by kernel_rfl) rfl (fun K hK=>?_)
              clear hS
              refine wp_padZ (.tmp 74) (.tmp 80) rfl N hN (Fr V0.heap.size w5) _ _ rfl hl5 (fun b hb=>hb.2) (n-x.length) rfl hsubn ?pz
              intro v8 w8 hl8 hg8 hv8
              have hgs8:=hg8.size
              have hlow:∀b,b<q0→w8.heap[b]? = w5.heap[b]?:=fun b hb=>hg8.block b (by omega) (fun e=>by have:=(hv8 _ e.symm).1;omega)
              have hlow8:Below q0 w5 w8:=⟨hg8.os,hg8.tape,hg8.output,hg8.size,hlow⟩
              obtain⟨y,hy⟩:∃y,x++List.replicate (n-x.length) nullV=y:=⟨_,rfl⟩
              rw[hy]at hl8
              obtain⟨a8,c8,hv8f,-⟩:=hl8.form
              subst hv8f
              have hM8:=hM5.stay (fun b hb _=>hlow b hb.1.2)
              have hJ8:JnW wb w8 N (.slice an n cn) rv L1:=⟨hJ5.below.trans (hlow8.mono (by omega)),(hlow _ htlt).trans hJ5.tb,hM8.mono fun b hb=>⟨hb.1.1,by have:=hb.1.2;omega⟩⟩
              have he8:Blk w8 eb _ _:=(hlow eb hebl).trans he5
              have hp2q:p2<q0:=by omega
              have hp8:w8.cell? ⟨p2,0,none⟩=some (.slice an n cn):=(World.cell?_of_block (hlow p2 hp2q)).trans hV5
              refine hKo hK ⟨hJ8.tb,hp8⟩ (fun hS=>?_)
              clear hK K hJ5 hM5 hV5 hl5 hb5 hg8 hv8
              refine wpAnyL_ready (i:=11) (by kernel_rfl) rfl (fun K hK=>?_)
              clear hS
              go_simp
              go_wp2_with fail
              have hal:=((Below.refl w8.heap.size w8).alloc (Nat.le_refl _) (.cells #[.slice a8 y.length c8] 32))
              have hJ9:=hJ8.stay hal
              have hM9:=hM8.stay (fun b hS hlt=>hal.block b hlt)
              have hl9:=hl8.stay (fun b hS hlt=>hal.block b hlt)
              have hs9:=World.size_alloc w8 (.cells #[.slice a8 y.length c8] 32)
              have hn9:(w8.alloc (.cells #[.slice a8 y.length c8] 32)).cell? ⟨w8.heap.size,0,none⟩=some (.slice a8 y.length c8):=(Blk.new w8 #[.slice a8 y.length c8] 32).cell 0 rfl
              have hp9:=sB hal hp8
              refine hKo hK ⟨hJ9.tb,hp9⟩ (fun hS=>?_)
              clear hK K hJ8 hM8 hl8
              refine wpAnyL_ready (i:=12) (by kernel_rfl) rfl (fun K hK=>?_)
              clear hS
              refine wp_pushR (.tmp 72) (.tmp 82) rfl N (fun b=>(wb.heap.size<b∧b<q0)∧b≠eb) (fun b=>Fr V0.heap.size w5 b∨(w5.heap.size≤b∧b<w8.heap.size)) _ _ rfl hM9 ?e2 w8.heap.size _ (.slice a8 y.length c8) rfl hn9 hl9 ?e3 hlen ?e5
              case e2=>intro b hb;rw[hs9];have:=hb.1.2;omega
              case e3=>
                intro b hb
                rw[hs9]
                rcases hb with hb|hb
                · exact⟨by have:=hb.2;omega,fun h=>by have:=h.1.2;have:=hb.1;omega⟩
                · exact⟨by omega,fun h=>by have:=h.1.2;omega⟩
              intro v' w' hM' hg hvS
              have hgs:=hg.size
              rw[hs9]at hgs
              have hJ8:=Hd (hJ9.push hM' hg (fun g e=>by have:=(hvS g e).1;exact⟨this.1,by rw[hs9];omega⟩) (fun b hb=>⟨hb.1.1,by have:=hb.1.2;omega⟩) (fun b hb=>by
                rcases hb with hb|hb
                · exact⟨by have:=hb.1;omega,by have:=hb.2;omega⟩
                · exact⟨by omega,by omega⟩))
              have hV7:Blk w' wb.heap.size _ _:=(hg.block _ hJ9.tb.lt (fun e=>by have:=(hvS _ e.symm).1.1;omega)).trans hJ9.tb
              have he7:Blk (w'.setCell ⟨wb.heap.size,1,none⟩ v') eb #[.int .i64 0] 41:=Blk.set_other ((hg.block eb (by rw[hs9];omega) (fun e=>(hvS _ e.symm).2 rfl)).trans (he8.alloc (.cells #[.slice a8 y.length c8] 32))) ⟨wb.heap.size,1,none⟩ (by show eb≠wb.heap.size;have:=hebn.out;omega) v'
              replace he7:=Hd he7
              have hp7:w'.cell? ⟨p2,0,none⟩=some (.slice an n cn):=(World.cell?_of_block (hg.block p2 (by rw[hs9];omega) (fun e=>by have:=(hvS _ e.symm).1.1;omega))).trans hp9
              obtain⟨ao7,cap7,hv7⟩:=hM'.form
              rw[List.length_append,List.length_singleton]at hv7
              subst hv7
              refine hKo hK ⟨hV7,hp7⟩ (fun hS=>?_)
              clear hK K hJ9 hM9 hl9 hn9 hM' hg hvS hp7 hp9 he8 he5 heV
              refine tlH 13 ?_ rfl (fun w' hS=>?_) hS ?_
              rotate_left
              ·
                skip
                go_simp
                try with_reducible rfl
              refine wpAnyL_late (i:=14) (by kernel_rfl) rfl (by kernel_rfl) (fun K hK=>?_)
              clear hS
              have f1:=hV7.free 1
              have z0:=hV7.cell 0 rfl
              have z1:=hV7.cell 1 rfl
              go_simp
              go_wp2_with fail
              refine hK.out _ _ ?_
              clear hK K f1 hV7 z0 z1
              try simp only[List.getElem_toArray,List.getElem_cons_succ,List.getElem_cons_zero,Act.put,List.setIfInBounds_toArray,List.set_cons_zero,List.set_cons_succ]
              refine wpAnyL_done (by kernel_rfl) ?_ _
              subst hy
              rw[←hnx.out]at hJ8
              go_wp2
              go_roundw
              case rel=>exact⟨i+1,_,hi1.out,by go_num,hJ8,he7⟩
              case measure=>have:=hi1.out;simp[intOf];omega
            · have hnx : leftK b A B (i + 1) = leftK b A B i ++ js := by
                rw[hnext.out]
                congr 1
                cases b with
                |false=>exact absurd hjs.symm hj0
                | true =>
                  rw[if_pos rfl]at hjs
                  rw[←hjs]
                  exact leftR_some (by rw[hjs];exact hj0)
              have hjl:0<js.length:=List.length_pos_iff.2 hj0
              have hne:(((leftK b A B i++js).length:Int)==((leftK b A B i).length:Int))=false:=by
                rw[beq_eq_false_iff_ne,List.length_append]
                omega
              have hJ4:=hJ3
              rw[←hnx]at hJ4
              replace hJ4:=Hd hJ4
              replace he7:=Hd he7
              obtain⟨m2,hm2⟩:∃m,(leftK b A B i++js).length=m:=⟨_,rfl⟩
              obtain⟨m1,hm1⟩:∃m,(leftK b A B i).length=m:=⟨_,rfl⟩
              rw[hm1,hm2]at hne
              rw[hm2]at t71
              rw[hm1]
              replace hm1:=Hd hm1
              replace hm2:=Hd hm2
              replace hnx:=Hd hnx
              clear hJ3 hb17 hjs hj0 hjl hlaw hpad hrl hnext
              go_wp2
              go_roundw
              case rel=>exact⟨i+1,_,hi1.out,by go_num,hJ4,he7⟩
              case measure=>have:=hi1.out;simp[intOf];omega
          · have hki : ¬ (i : Int) < (A.rows.length : Int) := by omega
            obtain rfl:i=A.rows.length:=by omega
            rw[leftK_all]at hJ
            have hd:=Hd (hJ.out.done (vars:=B.vars.foldl addN A.vars) hB5.out (by rw[hnh.out];exact own5n.out) (by have:=hs5.out;omega) hsz2.out hq25b.out (by omega))
            have z0:=hJ.out.tb.cell 0 rfl
            have z1:=hJ.out.tb.cell 1 rfl
            have hrb5:Blk w6 (w.heap.size+1+1+1+1+1) _ _:=(hJ.out.below.block _ hq25lt.out).trans hq25b.out
            have f1:=Blk.free hrb5
            have g0:=hrb5.cell 0 rfl
            have g1:=hrb5.cell 1 rfl
            obtain⟨ao9,cap9,hrv⟩:=hJ.out.slice
            subst hrv
            go_wp2
            refine bodyPost_ret (v:=.tuple #[.agg #[.slice an n cn,.slice ao9 (leftT b A B).rows.length cap9],.int .i64 0]) (res2 rfl _ _ (w.heap.size+1+1+1+1+1) 25 _ (0,0) _ _ rfl rfl hd.out.1.eq Tryz.underlying25 rfl infoTab) rfl ⟨_,rfl,by rw[hz.out];exact hd.out.2⟩
end Go.Proofs.YtmpldjbdhbapbaaGreatDoor.tab
