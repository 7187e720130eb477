/- Texts XOpen2, GrMem, one behind the other. -/
import Derived.Test.YtcaeipdgbaligaaGreatDoorXOpen
set_option linter.unusedSimpArgs false
set_option linter.unusedVariables false
namespace Go.Proofs.YtcaeipdgbaligaaGreatDoor.ex
open Go.ChangeShapes Go.WideShapes Go.ChangeAt Go.RowKit kit val tab
open hyp (RowA TextsA textsV textsV_length)
set_option maxRecDepth 100000
section
variable{H:Type}{enc:TypeId×Value→H}{W:World}
theorem bgp_of{N fuel:Nat}{cs:List Value}{x:DataW H×List MemPlace}(h:DataW.trod enc Tryz.prog W 0 (fun _=>true) true fuel 120 cs=some x)(hB:Rows.uptoBulk x.1≤N):∃v l,cs=[v]∧BgpA W N v l∧l.length+1≤Rows.uptoBulk x.1:=by
 obtain⟨ao,cap,l,rfl,h1,h2,h3,-⟩:=open_list (N:=N) (m:=18) (fun _:V×V×V=>0) (fun ao o q=>EA W N ao o q.1∧EA W N ao (o+6) q.2.1∧EA W N ao (o+12) q.2.2) Tryz.underlying120 (e:=322) (by kernel_rfl) (by decide) (fun n _ cc y b off o h hB hcl hb hc=>by
  have hC1:Tryz.prog.cellsOf 38=6:=by kernel_rfl
  obtain⟨xs,n',rfl,rfl,-,hxl,hf⟩:=DataW.trod_struct Tryz.underlying322 h
  match xs,hxl with
  |[y0,y1,y2],_=>
   have f0:DataW.trod enc Tryz.prog W 0 (fun _=>true) true n' 38 ((cc.drop 0).take (Tryz.prog.cellsOf 38))=some y0:=hf 0 _ rfl
   have f1:DataW.trod enc Tryz.prog W 0 (fun _=>true) true n' 38 ((cc.drop 6).take (Tryz.prog.cellsOf 38))=some y1:=hf 1 _ rfl
   have f2:DataW.trod enc Tryz.prog W 0 (fun _=>true) true n' 38 ((cc.drop 12).take (Tryz.prog.cellsOf 38))=some y2:=hf 2 _ rfl
   simp only[hC1]at f0 f1 f2
   simp only[List.map_cons,List.map_nil,Rows.uptoBulk,Rows.uptoBulkAll]at hB
   obtain⟨v0,e0,-⟩:=v_of (o:=o) (N:=N) f0 (by omega) (part_of (k:=0) hc (by decide))
   obtain⟨v1,e1,-⟩:=v_of (o:=o+6) (N:=N) f1 (by omega) (part_of hc (by decide))
   obtain⟨v2,e2,-⟩:=v_of (o:=o+12) (N:=N) f2 (by omega) (part_of hc (by decide))
   exact⟨(v0,v1,v2),⟨e0,e1,e2⟩,Nat.zero_le _⟩) h hB
 exact⟨_,l,rfl,⟨ao,cap,rfl,by omega,h3⟩,h2⟩
theorem spots_of{N fuel:Nat}{cs:List Value}{x:DataW H×List MemPlace}(h:DataW.trod enc Tryz.prog W 0 (fun _=>true) true fuel 121 cs=some x)(hB:Rows.uptoBulk x.1≤N):∃v l,cs=[v]∧SpotsA W N v l∧l.length+1≤Rows.uptoBulk x.1:=by
 obtain⟨ao,cap,l,rfl,h1,h2,h3,-⟩:=open_list (N:=N) (m:=2) (fun _:ByteArray×List ByteArray=>0) (fun ao o q=>Cl W ao o (.string q.1)∧q.1.size≤N∧∃s,Cl W ao (o+1) s∧TextsA W W.heap.size s q.2∧q.2.length≤N) Tryz.underlying121 (e:=313) (by kernel_rfl) (by decide) (fun n _ cc y b off o h hB hcl hb hc=>by
  have hC1:Tryz.prog.cellsOf 9=1:=by kernel_rfl
  have hC2:Tryz.prog.cellsOf 23=1:=by kernel_rfl
  obtain⟨xs,n',rfl,rfl,-,hxl,hf⟩:=DataW.trod_struct Tryz.underlying313 h
  match xs,hxl with
  |[y0,y1],_=>
   have f0:DataW.trod enc Tryz.prog W 0 (fun _=>true) true n' 9 ((cc.drop 0).take (Tryz.prog.cellsOf 9))=some y0:=hf 0 _ rfl
   have f1:DataW.trod enc Tryz.prog W 0 (fun _=>true) true n' 23 ((cc.drop 1).take (Tryz.prog.cellsOf 23))=some y1:=hf 1 _ rfl
   simp only[hC1,hC2]at f0 f1
   simp only[List.map_cons,List.map_nil,Rows.uptoBulk,Rows.uptoBulkAll]at hB
   obtain⟨s,e0,b0⟩:=str_of f0
   obtain⟨v1,l1,e1,t1,b1⟩:=texts_of f1
   exact⟨(s,l1),⟨cl_of (k:=0) hb hc (by decide) e0,(by omega:s.size≤N),v1,cl_of hb hc (by decide) e1,t1,(by omega:l1.length≤N)⟩,Nat.zero_le _⟩) h hB
 exact⟨_,l,rfl,⟨ao,cap,rfl,by omega,h3⟩,h2⟩
theorem hops_of{N fuel:Nat}{cs:List Value}{x:DataW H×List MemPlace}(h:DataW.trod enc Tryz.prog W 0 (fun _=>true) true fuel 122 cs=some x)(hB:Rows.uptoBulk x.1≤N):∃v l,cs=[v]∧HopsA W N v l∧l.length+1≤Rows.uptoBulk x.1:=by
 obtain⟨ao,cap,l,rfl,h1,h2,h3,-⟩:=open_list (N:=N) (m:=5) (fun _:HopD=>0) (fun ao o q=>Cl W ao o (.string q.src)∧Cl W ao (o+1) (.string q.edge)∧Cl W ao (o+2) (.string q.dst)∧q.src.size≤N∧q.edge.size≤N∧q.dst.size≤N∧(∃s,Cl W ao (o+3) s∧TextsA W W.heap.size s q.types∧q.types.length≤N)∧Cl W ao (o+4) (.int .i64 q.dir)∧In64 q.dir) Tryz.underlying122 (e:=315) (by kernel_rfl) (by decide) (fun n _ cc y b off o h hB hcl hb hc=>by
  have hC1:Tryz.prog.cellsOf 9=1:=by kernel_rfl
  have hC2:Tryz.prog.cellsOf 23=1:=by kernel_rfl
  have hC3:Tryz.prog.cellsOf 3=1:=by kernel_rfl
  obtain⟨xs,n',rfl,rfl,-,hxl,hf⟩:=DataW.trod_struct Tryz.underlying315 h
  match xs,hxl with
  |[y0,y1,y2,y3,y4],_=>
   have f0:DataW.trod enc Tryz.prog W 0 (fun _=>true) true n' 9 ((cc.drop 0).take (Tryz.prog.cellsOf 9))=some y0:=hf 0 _ rfl
   have f1:DataW.trod enc Tryz.prog W 0 (fun _=>true) true n' 9 ((cc.drop 1).take (Tryz.prog.cellsOf 9))=some y1:=hf 1 _ rfl
   have f2:DataW.trod enc Tryz.prog W 0 (fun _=>true) true n' 9 ((cc.drop 2).take (Tryz.prog.cellsOf 9))=some y2:=hf 2 _ rfl
   have f3:DataW.trod enc Tryz.prog W 0 (fun _=>true) true n' 23 ((cc.drop 3).take (Tryz.prog.cellsOf 23))=some y3:=hf 3 _ rfl
   have f4:DataW.trod enc Tryz.prog W 0 (fun _=>true) true n' 3 ((cc.drop 4).take (Tryz.prog.cellsOf 3))=some y4:=hf 4 _ rfl
   simp only[hC1,hC2,hC3]at f0 f1 f2 f3 f4
   simp only[List.map_cons,List.map_nil,Rows.uptoBulk,Rows.uptoBulkAll]at hB
   obtain⟨s0,e0,b0⟩:=str_of f0
   obtain⟨s1,e1,b1⟩:=str_of f1
   obtain⟨s2,e2,b2⟩:=str_of f2
   obtain⟨v3,l3,e3,t3,b3⟩:=texts_of f3
   obtain⟨d,e4,w4⟩:=int_of f4
   exact⟨⟨s0,s1,s2,l3,d⟩,⟨cl_of (k:=0) hb hc (by decide) e0,cl_of hb hc (by decide) e1,cl_of hb hc (by decide) e2,(by omega:s0.size≤N),(by omega:s1.size≤N),(by omega:s2.size≤N),⟨v3,cl_of hb hc (by decide) e3,t3,(by omega:l3.length≤N)⟩,cl_of hb hc (by decide) e4,w4⟩,Nat.zero_le _⟩) h hB
 exact⟨_,l,rfl,⟨ao,cap,rfl,by omega,h3⟩,h2⟩
def Opens(enc:TypeId×Value→H)(W:World)(N m:Nat):Prop:=
 (∀cs x,DataW.trod enc Tryz.prog W 0 (fun _=>true) true m 22 cs=some x→Rows.uptoBulk x.1≤N→∃v l,cs=[v]∧XS W N v l∧wXs l+1≤Rows.uptoBulk x.1) ∧
 (∀cs x,DataW.trod enc Tryz.prog W 0 (fun _=>true) true m 39 cs=some x→Rows.uptoBulk x.1≤N→∃v l,cs=[v]∧PS W N v l∧wPs l+1≤Rows.uptoBulk x.1) ∧
 (∀cs x,DataW.trod enc Tryz.prog W 0 (fun _=>true) true m 123 cs=some x→Rows.uptoBulk x.1≤N→∃v l,cs=[v]∧AS W N v l∧wAs l+1≤Rows.uptoBulk x.1) ∧
 (∀cs x,DataW.trod enc Tryz.prog W 0 (fun _=>true) true m 124 cs=some x→Rows.uptoBulk x.1≤N→∃v l,cs=[v]∧SS W N v l∧wSs l+1≤Rows.uptoBulk x.1)
theorem x_of{N n:Nat}(ih:∀m,m<n→Opens enc W N m){cc:List Value}{y:DataW H×List MemPlace}{b off o:Nat}(h:DataW.trod enc Tryz.prog W 0 (fun _=>true) true n 43 cc=some y)(hB:Rows.uptoBulk y.1≤N)(hb:b<W.heap.size)(hc:∀i,i<13→W.cell? ⟨b,off+o+i,none⟩=cc[i]?):
 ∃a,XC W N (some ⟨b,off,none⟩) o a∧wX a≤Rows.uptoBulk y.1:=by
 have hC1:Tryz.prog.cellsOf 9=1:=by kernel_rfl
 have hC2:Tryz.prog.cellsOf 3=1:=by kernel_rfl
 have hC3:Tryz.prog.cellsOf 4=1:=by kernel_rfl
 have hC4:Tryz.prog.cellsOf 38=6:=by kernel_rfl
 have hC5:Tryz.prog.cellsOf 22=1:=by kernel_rfl
 have hC6:Tryz.prog.cellsOf 39=1:=by kernel_rfl
 have hC7:Tryz.prog.cellsOf 40=1:=by kernel_rfl
 have hC8:Tryz.prog.cellsOf 41=1:=by kernel_rfl
 obtain⟨xs,n',rfl,rfl,-,hxl,hf⟩:=DataW.trod_struct Tryz.underlying43 h
 match xs,hxl with
 |[y0,y1,y2,y3,y4,y5,y6,y7],_=>
  have f0:DataW.trod enc Tryz.prog W 0 (fun _=>true) true n' 3 ((cc.drop 0).take (Tryz.prog.cellsOf 3))=some y0:=hf 0 _ rfl
  have f1:DataW.trod enc Tryz.prog W 0 (fun _=>true) true n' 9 ((cc.drop 1).take (Tryz.prog.cellsOf 9))=some y1:=hf 1 _ rfl
  have f2:DataW.trod enc Tryz.prog W 0 (fun _=>true) true n' 38 ((cc.drop 2).take (Tryz.prog.cellsOf 38))=some y2:=hf 2 _ rfl
  have f3:DataW.trod enc Tryz.prog W 0 (fun _=>true) true n' 4 ((cc.drop 8).take (Tryz.prog.cellsOf 4))=some y3:=hf 3 _ rfl
  have f4:DataW.trod enc Tryz.prog W 0 (fun _=>true) true n' 22 ((cc.drop 9).take (Tryz.prog.cellsOf 22))=some y4:=hf 4 _ rfl
  have f5:DataW.trod enc Tryz.prog W 0 (fun _=>true) true n' 39 ((cc.drop 10).take (Tryz.prog.cellsOf 39))=some y5:=hf 5 _ rfl
  have f6:DataW.trod enc Tryz.prog W 0 (fun _=>true) true n' 40 ((cc.drop 11).take (Tryz.prog.cellsOf 40))=some y6:=hf 6 _ rfl
  have f7:DataW.trod enc Tryz.prog W 0 (fun _=>true) true n' 41 ((cc.drop 12).take (Tryz.prog.cellsOf 41))=some y7:=hf 7 _ rfl
  simp only[hC1,hC2,hC3,hC4,hC5,hC6,hC7,hC8]at f0 f1 f2 f3 f4 f5 f6 f7
  simp only[List.map_cons,List.map_nil,Rows.uptoBulk,Rows.uptoBulkAll]at hB ⊢
  obtain⟨op,e0,w0⟩:=int_of f0
  obtain⟨t,e1,b1⟩:=str_of f1
  obtain⟨v,e2,b2⟩:=v_of (o:=o+2) (N:=N) f2 (by omega) (part_of hc (by decide))
  obtain⟨fl,e3⟩:=bool_of f3
  obtain⟨sa,la,e4,ha,b4⟩:=(ih n' (by omega)).1 _ _ f4 (by omega)
  obtain⟨sp,lp,e5,hp,b5⟩:=(ih n' (by omega)).2.1 _ _ f5 (by omega)
  obtain⟨am,lm,cm,e6,b6⟩:=len_of Tryz.underlying40 f6
  obtain⟨ag,lg,cg,e7,b7⟩:=len_of Tryz.underlying41 f7
  refine⟨.mk op t v fl la lp lm lg,.mk _ o op t v fl la lp lm lg sa sp am ag cm cg (cl_of (k:=0) hb hc (by decide) e0) w0 (cl_of hb hc (by decide) e1) (by omega) e2 (cl_of hb hc (by decide) e3) (cl_of hb hc (by decide) e4) ha (cl_of hb hc (by decide) e5) hp (cl_of hb hc (by decide) e6) (by omega) (cl_of hb hc (by decide) e7) (by omega),?_⟩
  rw[wX]
  omega
theorem p_of{N n:Nat}(ih:∀m,m<n→Opens enc W N m){cc:List Value}{y:DataW H×List MemPlace}{b off o:Nat}(h:DataW.trod enc Tryz.prog W 0 (fun _=>true) true n 126 cc=some y)(hB:Rows.uptoBulk y.1≤N)(hb:b<W.heap.size)(hc:∀i,i<15→W.cell? ⟨b,off+o+i,none⟩=cc[i]?):
 ∃a,PC W N (some ⟨b,off,none⟩) o a∧wP a≤Rows.uptoBulk y.1:=by
 have hC1:Tryz.prog.cellsOf 9=1:=by kernel_rfl
 have hC2:Tryz.prog.cellsOf 3=1:=by kernel_rfl
 have hC3:Tryz.prog.cellsOf 4=1:=by kernel_rfl
 have hC4:Tryz.prog.cellsOf 23=1:=by kernel_rfl
 have hC5:Tryz.prog.cellsOf 22=1:=by kernel_rfl
 have hC6:Tryz.prog.cellsOf 39=1:=by kernel_rfl
 have hC7:Tryz.prog.cellsOf 119=1:=by kernel_rfl
 have hC8:Tryz.prog.cellsOf 120=1:=by kernel_rfl
 have hC9:Tryz.prog.cellsOf 121=1:=by kernel_rfl
 have hC10:Tryz.prog.cellsOf 122=1:=by kernel_rfl
 have hC11:Tryz.prog.cellsOf 123=1:=by kernel_rfl
 have hC12:Tryz.prog.cellsOf 124=1:=by kernel_rfl
 have hC13:Tryz.prog.cellsOf 2=1:=by kernel_rfl
 obtain⟨xs,n',rfl,rfl,-,hxl,hf⟩:=DataW.trod_struct Tryz.underlying126 h
 match xs,hxl with
 | [y0, y1, y2, y3, y4, y5, y6, y7, y8, y9, y10, y11, y12, y13, y14], _ =>
  have f0:DataW.trod enc Tryz.prog W 0 (fun _=>true) true n' 3 ((cc.drop 0).take (Tryz.prog.cellsOf 3))=some y0:=hf 0 _ rfl
  have f1:DataW.trod enc Tryz.prog W 0 (fun _=>true) true n' 3 ((cc.drop 1).take (Tryz.prog.cellsOf 3))=some y1:=hf 1 _ rfl
  have f2:DataW.trod enc Tryz.prog W 0 (fun _=>true) true n' 9 ((cc.drop 2).take (Tryz.prog.cellsOf 9))=some y2:=hf 2 _ rfl
  have f3:DataW.trod enc Tryz.prog W 0 (fun _=>true) true n' 23 ((cc.drop 3).take (Tryz.prog.cellsOf 23))=some y3:=hf 3 _ rfl
  have f4:DataW.trod enc Tryz.prog W 0 (fun _=>true) true n' 119 ((cc.drop 4).take (Tryz.prog.cellsOf 119))=some y4:=hf 4 _ rfl
  have f5:DataW.trod enc Tryz.prog W 0 (fun _=>true) true n' 120 ((cc.drop 5).take (Tryz.prog.cellsOf 120))=some y5:=hf 5 _ rfl
  have f6:DataW.trod enc Tryz.prog W 0 (fun _=>true) true n' 121 ((cc.drop 6).take (Tryz.prog.cellsOf 121))=some y6:=hf 6 _ rfl
  have f7:DataW.trod enc Tryz.prog W 0 (fun _=>true) true n' 122 ((cc.drop 7).take (Tryz.prog.cellsOf 122))=some y7:=hf 7 _ rfl
  have f8:DataW.trod enc Tryz.prog W 0 (fun _=>true) true n' 4 ((cc.drop 8).take (Tryz.prog.cellsOf 4))=some y8:=hf 8 _ rfl
  have f9:DataW.trod enc Tryz.prog W 0 (fun _=>true) true n' 22 ((cc.drop 9).take (Tryz.prog.cellsOf 22))=some y9:=hf 9 _ rfl
  have f10:DataW.trod enc Tryz.prog W 0 (fun _=>true) true n' 123 ((cc.drop 10).take (Tryz.prog.cellsOf 123))=some y10:=hf 10 _ rfl
  have f11:DataW.trod enc Tryz.prog W 0 (fun _=>true) true n' 124 ((cc.drop 11).take (Tryz.prog.cellsOf 124))=some y11:=hf 11 _ rfl
  have f12:DataW.trod enc Tryz.prog W 0 (fun _=>true) true n' 2 ((cc.drop 12).take (Tryz.prog.cellsOf 2))=some y12:=hf 12 _ rfl
  have f13:DataW.trod enc Tryz.prog W 0 (fun _=>true) true n' 2 ((cc.drop 13).take (Tryz.prog.cellsOf 2))=some y13:=hf 13 _ rfl
  have f14:DataW.trod enc Tryz.prog W 0 (fun _=>true) true n' 39 ((cc.drop 14).take (Tryz.prog.cellsOf 39))=some y14:=hf 14 _ rfl
  simp only[hC1,hC2,hC3,hC4,hC5,hC6,hC7,hC8,hC9,hC10,hC11,hC12,hC13]at f0 f1 f2 f3 f4 f5 f6 f7 f8 f9 f10 f11 f12 f13 f14
  simp only[List.map_cons,List.map_nil,Rows.uptoBulk,Rows.uptoBulkAll]at hB ⊢
  obtain⟨op,e0,w0⟩:=int_of f0
  obtain⟨lang,e1,w1⟩:=int_of f1
  obtain⟨var,e2,b2⟩:=str_of f2
  obtain⟨s3,l3,e3,t3,b3⟩:=texts_of f3
  obtain⟨s4,l4,e4,t4,b4⟩:=rows_of (N:=N) f4 (by omega)
  obtain⟨s5,l5,e5,t5,b5⟩:=bgp_of (N:=N) f5 (by omega)
  obtain⟨s6,l6,e6,t6,b6⟩:=spots_of (N:=N) f6 (by omega)
  obtain⟨s7,l7,e7,t7,b7⟩:=hops_of (N:=N) f7 (by omega)
  obtain⟨fl,e8⟩:=bool_of f8
  obtain⟨s9,l9,e9,t9,b9⟩:=(ih n' (by omega)).1 _ _ f9 (by omega)
  obtain⟨s10,l10,e10,t10,b10⟩:=(ih n' (by omega)).2.2.1 _ _ f10 (by omega)
  obtain⟨s11,l11,e11,t11,b11⟩:=(ih n' (by omega)).2.2.2 _ _ f11 (by omega)
  obtain⟨sk,e12,w12⟩:=int64_of f12
  obtain⟨lm,e13,w13⟩:=int64_of f13
  obtain⟨s14,l14,e14,t14,b14⟩:=(ih n' (by omega)).2.1 _ _ f14 (by omega)
  have hr:=wtR_len l4
  refine⟨.mk op lang var l3 l4 l5 l6 l7 fl l9 l10 l11 sk lm l14,.mk _ o op lang var l3 l4 l5 l6 l7 fl l9 l10 l11 sk lm l14 s3 s4 s5 s6 s7 s9 s10 s11 s14
   (cl_of (k:=0) hb hc (by decide) e0) w0 (cl_of hb hc (by decide) e1) w1 (cl_of hb hc (by decide) e2) (by omega) (cl_of hb hc (by decide) e3) t3 (by omega)
   (cl_of hb hc (by decide) e4) t4 (by omega) (cl_of hb hc (by decide) e5) t5 (cl_of hb hc (by decide) e6) t6 (cl_of hb hc (by decide) e7) t7 (cl_of hb hc (by decide) e8)
   (cl_of hb hc (by decide) e9) t9 (cl_of hb hc (by decide) e10) t10 (cl_of hb hc (by decide) e11) t11 (cl_of hb hc (by decide) e12) w12 (cl_of hb hc (by decide) e13) w13 (cl_of hb hc (by decide) e14) t14,?_⟩
  rw[wP]
  omega
theorem opens(N:Nat):∀m,Opens enc W N m:=by
 intro m
 induction m using Nat.strongRecOn with
 | ind m ih =>
  refine⟨fun cs x h hB=>?_,fun cs x h hB=>?_,fun cs x h hB=>?_,fun cs x h hB=>?_⟩
  ·obtain⟨ao,cap,l,rfl,h1,h2,h3,h4⟩:=open_list (N:=N) (m:=13) wX (XC W N) Tryz.underlying22 (e:=43) (by kernel_rfl) (by decide) (fun n hn cc y b off o h hB hcl hb hc=>x_of (fun k hk=>ih k (by omega)) h hB hb hc) h hB
   exact⟨_,l,rfl,.mk ao cap l (by omega) h3,by rw[wXs_eq];exact h4⟩
  ·obtain⟨ao,cap,l,rfl,h1,h2,h3,h4⟩:=open_list (N:=N) (m:=15) wP (PC W N) Tryz.underlying39 (e:=126) (by kernel_rfl) (by decide) (fun n hn cc y b off o h hB hcl hb hc=>p_of (fun k hk=>ih k (by omega)) h hB hb hc) h hB
   exact⟨_,l,rfl,.mk ao cap l (by omega) h3,by rw[wPs_eq];exact h4⟩
  ·obtain⟨ao,cap,l,rfl,h1,h2,h3,h4⟩:=open_list (N:=N) (m:=14) wA (AC W N) Tryz.underlying123 (e:=317) (by kernel_rfl) (by decide) (fun n hn cc y b off o h hB hcl hb hc=>by
    have hC1:Tryz.prog.cellsOf 9=1:=by kernel_rfl
    have hC2:Tryz.prog.cellsOf 43=13:=by kernel_rfl
    obtain⟨xs,n',rfl,rfl,-,hxl,hf⟩:=DataW.trod_struct Tryz.underlying317 h
    match xs,hxl with
    |[y0,y1],_=>
     have f0:DataW.trod enc Tryz.prog W 0 (fun _=>true) true n' 9 ((cc.drop 0).take (Tryz.prog.cellsOf 9))=some y0:=hf 0 _ rfl
     have f1:DataW.trod enc Tryz.prog W 0 (fun _=>true) true n' 43 ((cc.drop 1).take (Tryz.prog.cellsOf 43))=some y1:=hf 1 _ rfl
     simp only[hC1,hC2]at f0 f1
     simp only[List.map_cons,List.map_nil,Rows.uptoBulk,Rows.uptoBulkAll]at hB ⊢
     obtain⟨s,e0,b0⟩:=str_of f0
     obtain⟨a,e1,b1⟩:=x_of (N:=N) (o:=o+1) (fun k hk=>ih k (by omega)) f1 (by omega) hb (part_of hc (by decide))
     exact⟨.mk s a,.mk _ o s a (cl_of (k:=0) hb hc (by decide) e0) (by omega) e1,by rw[wA];omega⟩) h hB
   exact⟨_,l,rfl,.mk ao cap l (by omega) h3,by rw[wAs_eq];exact h4⟩
  ·obtain⟨ao,cap,l,rfl,h1,h2,h3,h4⟩:=open_list (N:=N) (m:=14) wS (SC W N) Tryz.underlying124 (e:=324) (by kernel_rfl) (by decide) (fun n hn cc y b off o h hB hcl hb hc=>by
    have hC1:Tryz.prog.cellsOf 4=1:=by kernel_rfl
    have hC2:Tryz.prog.cellsOf 43=13:=by kernel_rfl
    obtain⟨xs,n',rfl,rfl,-,hxl,hf⟩:=DataW.trod_struct Tryz.underlying324 h
    match xs,hxl with
    |[y0,y1],_=>
     have f0:DataW.trod enc Tryz.prog W 0 (fun _=>true) true n' 43 ((cc.drop 0).take (Tryz.prog.cellsOf 43))=some y0:=hf 0 _ rfl
     have f1:DataW.trod enc Tryz.prog W 0 (fun _=>true) true n' 4 ((cc.drop 13).take (Tryz.prog.cellsOf 4))=some y1:=hf 1 _ rfl
     simp only[hC1,hC2]at f0 f1
     simp only[List.map_cons,List.map_nil,Rows.uptoBulk,Rows.uptoBulkAll]at hB ⊢
     obtain⟨a,e0,b0⟩:=x_of (N:=N) (o:=o) (fun k hk=>ih k (by omega)) f0 (by omega) hb (part_of (k:=0) hc (by decide))
     obtain⟨d,e1⟩:=bool_of f1
     exact⟨.mk a d,.mk _ o a d e0 (cl_of hb hc (by decide) e1),by rw[wS];omega⟩) h hB
   exact⟨_,l,rfl,.mk ao cap l (by omega) h3,by rw[wSs_eq];exact h4⟩
end
end Go.Proofs.YtcaeipdgbaligaaGreatDoor.ex
set_option linter.unusedSimpArgs false
set_option linter.unusedVariables false
namespace Go.Proofs.YtcaeipdgbaligaaGreatDoor.ex
open Go.ChangeShapes Go.WideShapes Go.ChangeAt Go.RowKit kit val tab
open hyp (RowA TextsA textsV textsV_length)
set_option maxRecDepth 100000
structure NodeD where
 id:Int
 labels:List ByteArray
 props:List (ByteArray×V)
structure EdgeD where
 id:Int
 src:Int
 dst:Int
 type:ByteArray
 props:List (ByteArray×V)
def PairsA(w:World)(N:Nat)(v:Value)(l:List (ByteArray×V)):Prop:=∃ao cap,v=.slice ao l.length cap∧l.length≤N∧∀j (hj:j<l.length),Cl w ao (7 * j) (.string l[j].1)∧l[j].1.size≤N∧EA w N ao (7 * j+1) l[j].2
theorem PairsA.stay{w w':World}{N:Nat}{v:Value}{l:List (ByteArray×V)}(h:PairsA w N v l)(hb:Below w.heap.size w w'):PairsA w' N v l:=by
 obtain⟨ao,cap,e,hl,he⟩:=h
 exact⟨ao,cap,e,hl,fun j hj=>⟨(he j hj).1.stay hb,(he j hj).2.1,(he j hj).2.2.stay hb⟩⟩
def NodesA(w:World)(N:Nat)(v:Value)(l:List NodeD):Prop:=∃ao cap,v=.slice ao l.length cap∧l.length≤N∧∀j (hj:j<l.length),Cl w ao (3 * j) (.int .i64 l[j].id)∧In64 l[j].id∧(∃s,Cl w ao (3 * j+1) s∧TextsA w w.heap.size s l[j].labels∧l[j].labels.length≤N)∧∃s,Cl w ao (3 * j+2) s∧PairsA w N s l[j].props
theorem NodesA.stay{w w':World}{N:Nat}{v:Value}{l:List NodeD}(h:NodesA w N v l)(hb:Below w.heap.size w w'):NodesA w' N v l:=by
 obtain⟨ao,cap,e,hl,he⟩:=h
 refine⟨ao,cap,e,hl,fun j hj=>?_⟩
 obtain⟨h1,h2,⟨s,h3,h4,h5⟩,u,h6,h7⟩:=he j hj
 exact⟨h1.stay hb,h2,⟨s,h3.stay hb,TextsA.below h4 hb,h5⟩,u,h6.stay hb,h7.stay hb⟩
def EdgesG(w:World)(N:Nat)(v:Value)(l:List EdgeD):Prop:=∃ao cap,v=.slice ao l.length cap∧l.length≤N∧∀j (hj:j<l.length),Cl w ao (5 * j) (.int .i64 l[j].id)∧Cl w ao (5 * j+1) (.int .i64 l[j].src)∧Cl w ao (5 * j+2) (.int .i64 l[j].dst)∧In64 l[j].id∧In64 l[j].src∧In64 l[j].dst∧Cl w ao (5 * j+3) (.string l[j].type)∧l[j].type.size≤N∧∃s,Cl w ao (5 * j+4) s∧PairsA w N s l[j].props
theorem EdgesG.stay{w w':World}{N:Nat}{v:Value}{l:List EdgeD}(h:EdgesG w N v l)(hb:Below w.heap.size w w'):EdgesG w' N v l:=by
 obtain⟨ao,cap,e,hl,he⟩:=h
 refine⟨ao,cap,e,hl,fun j hj=>?_⟩
 obtain⟨h1,h2,h3,h4,h5,h6,h7,h8,u,h9,h10⟩:=he j hj
 exact⟨h1.stay hb,h2.stay hb,h3.stay hb,h4,h5,h6,h7.stay hb,h8,u,h9.stay hb,h10.stay hb⟩
section
variable{H:Type}{enc:TypeId×Value→H}{W:World}
theorem pairs_of{N fuel:Nat}{cs:List Value}{x:DataW H×List MemPlace}(h:DataW.trod enc Tryz.prog W 0 (fun _=>true) true fuel 74 cs=some x)(hB:Rows.uptoBulk x.1≤N):∃v l,cs=[v]∧PairsA W N v l:=by
 obtain⟨ao,cap,l,rfl,h1,h2,h3,-⟩:=open_list (N:=N) (m:=7) (fun _:ByteArray×V=>0) (fun ao o q=>Cl W ao o (.string q.1)∧q.1.size≤N∧EA W N ao (o+1) q.2) Tryz.underlying74 (e:=106) (by kernel_rfl) (by decide) (fun n _ cc y b off o h hB hcl hb hc=>by
  have hC1:Tryz.prog.cellsOf 9=1:=by kernel_rfl
  have hC2:Tryz.prog.cellsOf 38=6:=by kernel_rfl
  obtain⟨xs,n',rfl,rfl,-,hxl,hf⟩:=DataW.trod_struct Tryz.underlying106 h
  match xs,hxl with
  |[y0,y1],_=>
   have f0:DataW.trod enc Tryz.prog W 0 (fun _=>true) true n' 9 ((cc.drop 0).take (Tryz.prog.cellsOf 9))=some y0:=hf 0 _ rfl
   have f1:DataW.trod enc Tryz.prog W 0 (fun _=>true) true n' 38 ((cc.drop 1).take (Tryz.prog.cellsOf 38))=some y1:=hf 1 _ rfl
   simp only[hC1,hC2]at f0 f1
   simp only[List.map_cons,List.map_nil,Rows.uptoBulk,Rows.uptoBulkAll]at hB
   obtain⟨s,e0,b0⟩:=str_of f0
   obtain⟨v1,e1,-⟩:=v_of (o:=o+1) (N:=N) f1 (by omega) (part_of hc (by decide))
   exact⟨(s,v1),⟨cl_of (k:=0) hb hc (by decide) e0,(by omega:s.size≤N),e1⟩,Nat.zero_le _⟩) h hB
 exact⟨_,l,rfl,⟨ao,cap,rfl,by omega,h3⟩⟩
theorem nodes_of{N fuel:Nat}{cs:List Value}{x:DataW H×List MemPlace}(h:DataW.trod enc Tryz.prog W 0 (fun _=>true) true fuel 25 cs=some x)(hB:Rows.uptoBulk x.1≤N):∃v l,cs=[v]∧NodesA W N v l:=by
 obtain⟨ao,cap,l,rfl,h1,h2,h3,-⟩:=open_list (N:=N) (m:=3) (fun _:NodeD=>0) (fun ao o q=>Cl W ao o (.int .i64 q.id)∧In64 q.id∧(∃s,Cl W ao (o+1) s∧TextsA W W.heap.size s q.labels∧q.labels.length≤N)∧∃s,Cl W ao (o+2) s∧PairsA W N s q.props) Tryz.underlying25 (e:=76) (by kernel_rfl) (by decide) (fun n _ cc y b off o h hB hcl hb hc=>by
  have hC1:Tryz.prog.cellsOf 2=1:=by kernel_rfl
  have hC2:Tryz.prog.cellsOf 23=1:=by kernel_rfl
  have hC3:Tryz.prog.cellsOf 74=1:=by kernel_rfl
  obtain⟨xs,n',rfl,rfl,-,hxl,hf⟩:=DataW.trod_struct Tryz.underlying76 h
  match xs,hxl with
  |[y0,y1,y2],_=>
   have f0:DataW.trod enc Tryz.prog W 0 (fun _=>true) true n' 2 ((cc.drop 0).take (Tryz.prog.cellsOf 2))=some y0:=hf 0 _ rfl
   have f1:DataW.trod enc Tryz.prog W 0 (fun _=>true) true n' 23 ((cc.drop 1).take (Tryz.prog.cellsOf 23))=some y1:=hf 1 _ rfl
   have f2:DataW.trod enc Tryz.prog W 0 (fun _=>true) true n' 74 ((cc.drop 2).take (Tryz.prog.cellsOf 74))=some y2:=hf 2 _ rfl
   simp only[hC1,hC2,hC3]at f0 f1 f2
   simp only[List.map_cons,List.map_nil,Rows.uptoBulk,Rows.uptoBulkAll]at hB
   obtain⟨d,e0,w0⟩:=int64_of f0
   obtain⟨v1,l1,e1,t1,b1⟩:=texts_of f1
   obtain⟨v2,l2,e2,t2⟩:=pairs_of (N:=N) f2 (by omega)
   exact⟨⟨d,l1,l2⟩,⟨cl_of (k:=0) hb hc (by decide) e0,w0,⟨v1,cl_of hb hc (by decide) e1,t1,(by omega:l1.length≤N)⟩,v2,cl_of hb hc (by decide) e2,t2⟩,Nat.zero_le _⟩) h hB
 exact⟨_,l,rfl,⟨ao,cap,rfl,by omega,h3⟩⟩
theorem edges_of{N fuel:Nat}{cs:List Value}{x:DataW H×List MemPlace}(h:DataW.trod enc Tryz.prog W 0 (fun _=>true) true fuel 26 cs=some x)(hB:Rows.uptoBulk x.1≤N):∃v l,cs=[v]∧EdgesG W N v l:=by
 obtain⟨ao,cap,l,rfl,h1,h2,h3,-⟩:=open_list (N:=N) (m:=5) (fun _:EdgeD=>0) (fun ao o q=>Cl W ao o (.int .i64 q.id)∧Cl W ao (o+1) (.int .i64 q.src)∧Cl W ao (o+2) (.int .i64 q.dst)∧In64 q.id∧In64 q.src∧In64 q.dst∧Cl W ao (o+3) (.string q.type)∧q.type.size≤N∧∃s,Cl W ao (o+4) s∧PairsA W N s q.props) Tryz.underlying26 (e:=81) (by kernel_rfl) (by decide) (fun n _ cc y b off o h hB hcl hb hc=>by
  have hC1:Tryz.prog.cellsOf 2=1:=by kernel_rfl
  have hC2:Tryz.prog.cellsOf 9=1:=by kernel_rfl
  have hC3:Tryz.prog.cellsOf 74=1:=by kernel_rfl
  obtain⟨xs,n',rfl,rfl,-,hxl,hf⟩:=DataW.trod_struct Tryz.underlying81 h
  match xs,hxl with
  |[y0,y1,y2,y3,y4],_=>
   have f0:DataW.trod enc Tryz.prog W 0 (fun _=>true) true n' 2 ((cc.drop 0).take (Tryz.prog.cellsOf 2))=some y0:=hf 0 _ rfl
   have f1:DataW.trod enc Tryz.prog W 0 (fun _=>true) true n' 2 ((cc.drop 1).take (Tryz.prog.cellsOf 2))=some y1:=hf 1 _ rfl
   have f2:DataW.trod enc Tryz.prog W 0 (fun _=>true) true n' 2 ((cc.drop 2).take (Tryz.prog.cellsOf 2))=some y2:=hf 2 _ rfl
   have f3:DataW.trod enc Tryz.prog W 0 (fun _=>true) true n' 9 ((cc.drop 3).take (Tryz.prog.cellsOf 9))=some y3:=hf 3 _ rfl
   have f4:DataW.trod enc Tryz.prog W 0 (fun _=>true) true n' 74 ((cc.drop 4).take (Tryz.prog.cellsOf 74))=some y4:=hf 4 _ rfl
   simp only[hC1,hC2,hC3]at f0 f1 f2 f3 f4
   simp only[List.map_cons,List.map_nil,Rows.uptoBulk,Rows.uptoBulkAll]at hB
   obtain⟨d0,e0,w0⟩:=int64_of f0
   obtain⟨d1,e1,w1⟩:=int64_of f1
   obtain⟨d2,e2,w2⟩:=int64_of f2
   obtain⟨s3,e3,b3⟩:=str_of f3
   obtain⟨v4,l4,e4,t4⟩:=pairs_of (N:=N) f4 (by omega)
   exact⟨⟨d0,d1,d2,s3,l4⟩,⟨cl_of (k:=0) hb hc (by decide) e0,cl_of hb hc (by decide) e1,cl_of hb hc (by decide) e2,w0,w1,w2,cl_of hb hc (by decide) e3,(by omega:s3.size≤N),v4,cl_of hb hc (by decide) e4,t4⟩,Nat.zero_le _⟩) h hB
 exact⟨_,l,rfl,⟨ao,cap,rfl,by omega,h3⟩⟩
end
end Go.Proofs.YtcaeipdgbaligaaGreatDoor.ex
