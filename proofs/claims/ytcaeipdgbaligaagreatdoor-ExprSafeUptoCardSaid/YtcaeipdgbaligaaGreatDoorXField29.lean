/- Texts XField2, XField3, XField29, one behind the other. -/
import Derived.Test.YtcaeipdgbaligaaGreatDoorXFieldP
import Derived.Test.YtcaeipdgbaligaaGreatDoorXOwnP
set_option linter.unusedSimpArgs false
set_option linter.unusedVariables false
set_option maxHeartbeats 4000000
namespace Go.Proofs.YtcaeipdgbaligaaGreatDoor.ex
open Go.ChangeShapes Go.WideShapes Go.ChangeAt Go.RowKit kit dec val
set_option maxRecDepth 100000
theorem fields_2(w:World)(hE:Env w)(t:ByteArray)(ht:t.size≤1048576)(k:Int)(b:Bool)(n:Int)(t2 u2:ByteArray)(s:Value)(l:List V)(hla:LA w 1048576 s l)(f:Bool)(sa:Value)(ap am ag:Option Addr)(pl cp mt cm gp cg:Nat)(hp:pl≤1048576)(hm:mt≤1048576)(hg:gp≤1048576):
 Calls Tryz.prog 48 #[.agg #[.int .i64 2,.string t,.int .i64 k,.bool b,.int .i64 n,.string t2,.string u2,s,.bool f,sa,.slice ap pl cp,.slice am mt cm,.slice ag gp cg]] w fun e w'=>e=.returned (.bool (sameP (.mk k b n t2 u2 l) (.mk 0 false 0 ByteArray.empty ByteArray.empty [])&&(nameB t&&(!f&&(decide (mt=0)&&(decide (gp=0)&&decide (pl=0)))))))∧Below w.heap.size w w':=by
 have hq:=Blk.new w #[.int .i64 2,.string t,.int .i64 k,.bool b,.int .i64 n,.string t2,.string u2,s,.bool f,sa,.slice ap pl cp,.slice am mt cm,.slice ag gp cg] 43
 have hal:Below w.heap.size w (w.alloc (.cells #[.int .i64 2,.string t,.int .i64 k,.bool b,.int .i64 n,.string t2,.string u2,s,.bool f,sa,.slice ap pl cp,.slice am mt cm,.slice ag gp cg] 43)):=(Below.refl _ _).alloc (Nat.le_refl _) _
 have cV:=same_call 1048576 (by omega) (w.alloc (.cells #[.int .i64 2,.string t,.int .i64 k,.bool b,.int .i64 n,.string t2,.string u2,s,.bool f,sa,.slice ap pl cp,.slice am mt cm,.slice ag gp cg] 43)) k b n t2 u2 s l 0 false 0 ByteArray.empty ByteArray.empty (.slice none 0 0) [] (hla.stay hal) (.mk none 0 [] (by simp) (fun j hj=>by simp at hj))
 unfold agg6 at cV
 have x0:=hq.cell 0 rfl
 have x1:=hq.cell 1 rfl
 have x2:=hq.cell 2 rfl
 have x3:=hq.cell 3 rfl
 have x4:=hq.cell 4 rfl
 have x5:=hq.cell 5 rfl
 have x6:=hq.cell 6 rfl
 have x7:=hq.cell 7 rfl
 have x8:=hq.cell 8 rfl
 have x9:=hq.cell 9 rfl
 have x10:=hq.cell 10 rfl
 have x11:=hq.cell 11 rfl
 have x12:=hq.cell 12 rfl
 replace hal:=Hd hal
 replace hq:=Hd hq
 generalize hr:sameP (.mk k b n t2 u2 l) (.mk 0 false 0 ByteArray.empty ByteArray.empty [])=r at cV ⊢
 replace cV:=Hd cV
 have hpz:((pl:Int)==0)=decide (pl=0):=by
  rw[Bool.eq_iff_iff,beq_iff_eq,decide_eq_true_eq]
  omega
 have cN0:∀V,Env V→Calls Tryz.prog 78 #[.string t] V fun e w'=>e=.returned (.bool (nameB t))∧Below V.heap.size V w':=fun V hE=>xname_any V hE t ht
 generalize nameB t=nm at cN0 ⊢
 replace cN0:=Hd cN0
 go_enter Tryz.func48,Tryz.ntmps48
 go_wp2_with fail
 refine cV.out.mono ?_
 rintro e w2 ⟨rfl,hb2⟩
 clear x0 x1 x2 x3 x4 x5 x6 x7 x8 x9 x10 x11 x12
 have hq2:Blk w2 w.heap.size #[.int .i64 2,.string t,.int .i64 k,.bool b,.int .i64 n,.string t2,.string u2,s,.bool f,sa,.slice ap pl cp,.slice am mt cm,.slice ag gp cg] 43:=(hb2.block _ hq.out.lt).trans hq.out
 have x0:=hq2.cell 0 rfl
 have x1:=hq2.cell 1 rfl
 have x2:=hq2.cell 2 rfl
 have x3:=hq2.cell 3 rfl
 have x4:=hq2.cell 4 rfl
 have x5:=hq2.cell 5 rfl
 have x6:=hq2.cell 6 rfl
 have x7:=hq2.cell 7 rfl
 have x8:=hq2.cell 8 rfl
 have x9:=hq2.cell 9 rfl
 have x10:=hq2.cell 10 rfl
 have x11:=hq2.cell 11 rfl
 have x12:=hq2.cell 12 rfl
 have hB:=Hd (hal.out.trans (hb2.mono hal.out.size))
 have cN:=Hd (cN0.out w2 (hE.below hB.out))
 clear cN0
 replace hq2:=Hd hq2
 clear hal hb2 cV hq hr
 cases r
 ·go_wp2
  go_ret
  exact⟨rfl,hB.out⟩
 go_wp2_with fail
 refine cN.out.mono ?_
 rintro e w3 ⟨rfl,hb3⟩
 clear x0 x1 x2 x3 x4 x5 x6 x7 x8 x9 x10 x11 x12
 have hq3:Blk w3 w.heap.size #[.int .i64 2,.string t,.int .i64 k,.bool b,.int .i64 n,.string t2,.string u2,s,.bool f,sa,.slice ap pl cp,.slice am mt cm,.slice ag gp cg] 43:=(hb3.block _ hq2.out.lt).trans hq2.out
 have x0:=hq3.cell 0 rfl
 have x1:=hq3.cell 1 rfl
 have x2:=hq3.cell 2 rfl
 have x3:=hq3.cell 3 rfl
 have x4:=hq3.cell 4 rfl
 have x5:=hq3.cell 5 rfl
 have x6:=hq3.cell 6 rfl
 have x7:=hq3.cell 7 rfl
 have x8:=hq3.cell 8 rfl
 have x9:=hq3.cell 9 rfl
 have x10:=hq3.cell 10 rfl
 have x11:=hq3.cell 11 rfl
 have x12:=hq3.cell 12 rfl
 replace hB:=Hd (hB.out.trans (hb3.mono hB.out.size))
 clear hb3 cN hq2 hq3
 go_wp2
 all_goals go_ret
 all_goals refine⟨?_,hB.out⟩
 all_goals clear hB x0 x1 x2 x3 x4 x5 x6 x7 x8 x9 x10 x11 x12 hla
 all_goals first
  |(show Ending.returned (.bool false)=_;simp_all;done)
  |(show Ending.returned (.bool false)=_;have hg1:gp≠0:=(by omega);simp_all;done)
  |(show Ending.returned (.bool ((pl:Int)==0))=_;have hg1:gp=0:=(by omega);rw[hpz];simp_all;done)
  |(show Ending.returned (.bool (decide (pl=0)))=_;have hg1:gp=0:=(by omega);simp_all;done)
  |trace_state
end Go.Proofs.YtcaeipdgbaligaaGreatDoor.ex
set_option linter.unusedSimpArgs false
set_option linter.unusedVariables false
set_option maxHeartbeats 4000000
namespace Go.Proofs.YtcaeipdgbaligaaGreatDoor.ex
open Go.ChangeShapes Go.WideShapes Go.ChangeAt Go.RowKit kit dec val
set_option maxRecDepth 100000
theorem fields_3(w:World)(t:ByteArray)(ht:t.size≤4611686018427387904)(k:Int)(b:Bool)(n:Int)(t2 u2:ByteArray)(s:Value)(l:List V)(hla:LA w 1048576 s l)(f:Bool)(sa:Value)(ap am ag:Option Addr)(pl cp mt cm gp cg:Nat)(hp:pl≤1048576)(hm:mt≤1048576)(hg:gp≤1048576):
 Calls Tryz.prog 48 #[.agg #[.int .i64 3,.string t,.int .i64 k,.bool b,.int .i64 n,.string t2,.string u2,s,.bool f,sa,.slice ap pl cp,.slice am mt cm,.slice ag gp cg]] w fun e w'=>e=.returned (.bool (sameP (.mk k b n t2 u2 l) (.mk 0 false 0 ByteArray.empty ByteArray.empty [])&&(decide (1≤t.size)&&(decide (t.size≤1048576)&&(!f&&(decide (mt=0)&&(decide (gp=0)&&decide (pl=0))))))))∧Below w.heap.size w w':=by
 have hq:=Blk.new w #[.int .i64 3,.string t,.int .i64 k,.bool b,.int .i64 n,.string t2,.string u2,s,.bool f,sa,.slice ap pl cp,.slice am mt cm,.slice ag gp cg] 43
 have hal:Below w.heap.size w (w.alloc (.cells #[.int .i64 3,.string t,.int .i64 k,.bool b,.int .i64 n,.string t2,.string u2,s,.bool f,sa,.slice ap pl cp,.slice am mt cm,.slice ag gp cg] 43)):=(Below.refl _ _).alloc (Nat.le_refl _) _
 have cV:=same_call 1048576 (by omega) (w.alloc (.cells #[.int .i64 3,.string t,.int .i64 k,.bool b,.int .i64 n,.string t2,.string u2,s,.bool f,sa,.slice ap pl cp,.slice am mt cm,.slice ag gp cg] 43)) k b n t2 u2 s l 0 false 0 ByteArray.empty ByteArray.empty (.slice none 0 0) [] (hla.stay hal) (.mk none 0 [] (by simp) (fun j hj=>by simp at hj))
 unfold agg6 at cV
 have x0:=hq.cell 0 rfl
 have x1:=hq.cell 1 rfl
 have x2:=hq.cell 2 rfl
 have x3:=hq.cell 3 rfl
 have x4:=hq.cell 4 rfl
 have x5:=hq.cell 5 rfl
 have x6:=hq.cell 6 rfl
 have x7:=hq.cell 7 rfl
 have x8:=hq.cell 8 rfl
 have x9:=hq.cell 9 rfl
 have x10:=hq.cell 10 rfl
 have x11:=hq.cell 11 rfl
 have x12:=hq.cell 12 rfl
 replace hal:=Hd hal
 replace hq:=Hd hq
 generalize hr:sameP (.mk k b n t2 u2 l) (.mk 0 false 0 ByteArray.empty ByteArray.empty [])=r at cV ⊢
 replace cV:=Hd cV
 have he:emp t=t.toList.isEmpty:=by
  rw[Go.ByteArray.toList_eq]
  unfold emp
  rw[Bool.eq_iff_iff,decide_eq_true_eq,List.isEmpty_iff,←List.length_eq_zero_iff]
  exact Iff.rfl
 have hpz:((pl:Int)==0)=decide (pl=0):=by
  rw[Bool.eq_iff_iff,beq_iff_eq,decide_eq_true_eq]
  omega
 clear he
 go_enter Tryz.func48,Tryz.ntmps48
 go_wp2_with fail
 refine cV.out.mono ?_
 rintro e w2 ⟨rfl,hb2⟩
 clear x0 x1 x2 x3 x4 x5 x6 x7 x8 x9 x10 x11 x12
 have hq2:Blk w2 w.heap.size #[.int .i64 3,.string t,.int .i64 k,.bool b,.int .i64 n,.string t2,.string u2,s,.bool f,sa,.slice ap pl cp,.slice am mt cm,.slice ag gp cg] 43:=(hb2.block _ hq.out.lt).trans hq.out
 have x0:=hq2.cell 0 rfl
 have x1:=hq2.cell 1 rfl
 have x2:=hq2.cell 2 rfl
 have x3:=hq2.cell 3 rfl
 have x4:=hq2.cell 4 rfl
 have x5:=hq2.cell 5 rfl
 have x6:=hq2.cell 6 rfl
 have x7:=hq2.cell 7 rfl
 have x8:=hq2.cell 8 rfl
 have x9:=hq2.cell 9 rfl
 have x10:=hq2.cell 10 rfl
 have x11:=hq2.cell 11 rfl
 have x12:=hq2.cell 12 rfl
 have hB:=Hd (hal.out.trans (hb2.mono hal.out.size))
 clear hal hb2 cV hq hq2 hr
 go_wp2
 all_goals go_ret
 all_goals refine⟨?_,hB.out⟩
 all_goals clear hB x0 x1 x2 x3 x4 x5 x6 x7 x8 x9 x10 x11 x12 hla
 all_goals first
  |(show Ending.returned (.bool false)=_;simp_all;done)
  |(show Ending.returned (.bool false)=_;have z1:decide (1≤t.size)=false:=decide_eq_false (by omega);simp_all;done)
  |(show Ending.returned (.bool false)=_;have z1:decide (t.size≤1048576)=false:=decide_eq_false (by omega);rw[z1];simp;done)
  |(have z1:decide (1≤t.size)=true:=decide_eq_true (by omega);have z2:decide (t.size≤1048576)=true:=decide_eq_true (by omega);rw[z1,z2,Bool.true_and,Bool.true_and];clear z1 z2;first|(show Ending.returned (.bool false)=_;simp_all;done)|(show Ending.returned (.bool false)=_;have hg1:gp≠0:=(by omega);simp_all;done)|(show Ending.returned (.bool ((pl:Int)==0))=_;have hg1:gp=0:=(by omega);rw[hpz];simp_all;done)|(show Ending.returned (.bool (decide (pl=0)))=_;have hg1:gp=0:=(by omega);simp_all;done))
  |(show Ending.returned (.bool false)=_;have hg1:gp≠0:=(by omega);simp_all;done)
  |(show Ending.returned (.bool ((pl:Int)==0))=_;have hg1:gp=0:=(by omega);rw[hpz];simp_all;done)
  |(show Ending.returned (.bool (decide (pl=0)))=_;have hg1:gp=0:=(by omega);simp_all;done)
  |trace_state
end Go.Proofs.YtcaeipdgbaligaaGreatDoor.ex
set_option linter.unusedSimpArgs false
set_option linter.unusedVariables false
set_option maxHeartbeats 4000000
namespace Go.Proofs.YtcaeipdgbaligaaGreatDoor.ex
open Go.ChangeShapes Go.WideShapes Go.ChangeAt Go.RowKit kit dec val
set_option maxRecDepth 100000
theorem fields_29(w:World)(t:ByteArray)(k:Int)(b:Bool)(n:Int)(t2 u2:ByteArray)(s:Value)(l:List V)(hla:LA w 1048576 s l)(f:Bool)(sa:Value)(ap am ag:Option Addr)(p:List P)(pl cp mt cm gp cg:Nat)(hpl:p.length=pl)(hp:pl≤1048576)(hps:PS w 1048576 (.slice ap p.length cp) p)(hm:mt≤1048576)(hg:gp≤1048576):
 Calls Tryz.prog 48 #[.agg #[.int .i64 29,.string t,.int .i64 k,.bool b,.int .i64 n,.string t2,.string u2,s,.bool f,sa,.slice ap pl cp,.slice am mt cm,.slice ag gp cg]] w fun e w'=>e=.returned (.bool (sameP (.mk k b n t2 u2 l) (.mk 0 false 0 ByteArray.empty ByteArray.empty [])&&(emp t&&(decide (mt=0)&&(decide (gp=0)&&onePl p)))))∧Below w.heap.size w w':=by
 have hq:=Blk.new w #[.int .i64 29,.string t,.int .i64 k,.bool b,.int .i64 n,.string t2,.string u2,s,.bool f,sa,.slice ap pl cp,.slice am mt cm,.slice ag gp cg] 43
 have hal:Below w.heap.size w (w.alloc (.cells #[.int .i64 29,.string t,.int .i64 k,.bool b,.int .i64 n,.string t2,.string u2,s,.bool f,sa,.slice ap pl cp,.slice am mt cm,.slice ag gp cg] 43)):=(Below.refl _ _).alloc (Nat.le_refl _) _
 have cV:=same_call 1048576 (by omega) (w.alloc (.cells #[.int .i64 29,.string t,.int .i64 k,.bool b,.int .i64 n,.string t2,.string u2,s,.bool f,sa,.slice ap pl cp,.slice am mt cm,.slice ag gp cg] 43)) k b n t2 u2 s l 0 false 0 ByteArray.empty ByteArray.empty (.slice none 0 0) [] (hla.stay hal) (.mk none 0 [] (by simp) (fun j hj=>by simp at hj))
 unfold agg6 at cV
 have x0:=hq.cell 0 rfl
 have x1:=hq.cell 1 rfl
 have x2:=hq.cell 2 rfl
 have x3:=hq.cell 3 rfl
 have x4:=hq.cell 4 rfl
 have x5:=hq.cell 5 rfl
 have x6:=hq.cell 6 rfl
 have x7:=hq.cell 7 rfl
 have x8:=hq.cell 8 rfl
 have x9:=hq.cell 9 rfl
 have x10:=hq.cell 10 rfl
 have x11:=hq.cell 11 rfl
 have x12:=hq.cell 12 rfl
 replace hal:=Hd hal
 replace hq:=Hd hq
 generalize hr:sameP (.mk k b n t2 u2 l) (.mk 0 false 0 ByteArray.empty ByteArray.empty [])=r at cV ⊢
 replace cV:=Hd cV
 have he:emp t=t.toList.isEmpty:=by
  rw[Go.ByteArray.toList_eq]
  unfold emp
  rw[Bool.eq_iff_iff,decide_eq_true_eq,List.isEmpty_iff,←List.length_eq_zero_iff]
  exact Iff.rfl
 rw[he]
 clear he
 have hone:pl≠1∧onePl p=false∧((pl:Int)==1)=false∨∃(op:Int) (bb off:Nat),pl=1∧onePl p=(op != 0)∧ap=some ⟨bb,off,none⟩∧bb<w.heap.size∧w.cell? ⟨bb,off,none⟩=some (.int .i64 op):=by
  rcases p with _|⟨q,_|⟨q2,p⟩⟩
  ·left
   subst hpl
   exact⟨by simp,rfl,rfl⟩
  ·right
   subst hpl
   obtain⟨bb,off,e1,e2,e3⟩:=ps_op hps
   refine⟨opP q,bb,off,rfl,?_,e1,e2,e3⟩
   unfold onePl
   show decide (opP q≠0)=(opP q != 0)
   by_cases h0:opP q=0<;>simp[h0]
  ·left
   have h2:pl≠1:=by rw[←hpl];simp
   exact⟨h2,rfl,beq_eq_false_iff_ne.2 (by omega)⟩
 clear hps hpl
 rcases hone with⟨h1,h2,h3⟩|⟨op,bb,off,rfl,h2,rfl,h4,h5⟩
 ·rw[h2]
  clear h2
  go_enter Tryz.func48,Tryz.ntmps48
  go_wp2_with fail
  refine cV.out.mono ?_
  rintro e w2 ⟨rfl,hb2⟩
  clear x0 x1 x2 x3 x4 x5 x6 x7 x8 x9 x10 x11 x12
  have hq2:Blk w2 w.heap.size #[.int .i64 29,.string t,.int .i64 k,.bool b,.int .i64 n,.string t2,.string u2,s,.bool f,sa,.slice ap pl cp,.slice am mt cm,.slice ag gp cg] 43:=(hb2.block _ hq.out.lt).trans hq.out
  have x0:=hq2.cell 0 rfl
  have x1:=hq2.cell 1 rfl
  have x2:=hq2.cell 2 rfl
  have x3:=hq2.cell 3 rfl
  have x4:=hq2.cell 4 rfl
  have x5:=hq2.cell 5 rfl
  have x6:=hq2.cell 6 rfl
  have x7:=hq2.cell 7 rfl
  have x8:=hq2.cell 8 rfl
  have x9:=hq2.cell 9 rfl
  have x10:=hq2.cell 10 rfl
  have x11:=hq2.cell 11 rfl
  have x12:=hq2.cell 12 rfl
  have hB:=Hd (hal.out.trans (hb2.mono hal.out.size))
  clear hal hb2 cV hq hq2 hr
  go_wp2
  all_goals go_ret
  all_goals refine⟨?_,hB.out⟩
  all_goals clear hB x0 x1 x2 x3 x4 x5 x6 x7 x8 x9 x10 x11 x12 hla
  all_goals first
   |(show Ending.returned (.bool false)=_;simp_all;done)
   |(show Ending.returned (.bool false)=_;have hg1:gp≠0:=(by omega);simp_all;done)
   |trace_state
 ·rw[h2]
  clear h2
  have z0:=h5
  go_enter Tryz.func48,Tryz.ntmps48
  go_wp2_with fail
  refine cV.out.mono ?_
  rintro e w2 ⟨rfl,hb2⟩
  clear x0 x1 x2 x3 x4 x5 x6 x7 x8 x9 x10 x11 x12
  have hq2:Blk w2 w.heap.size #[.int .i64 29,.string t,.int .i64 k,.bool b,.int .i64 n,.string t2,.string u2,s,.bool f,sa,.slice (some ⟨bb,off,none⟩) 1 cp,.slice am mt cm,.slice ag gp cg] 43:=(hb2.block _ hq.out.lt).trans hq.out
  have x0:=hq2.cell 0 rfl
  have x1:=hq2.cell 1 rfl
  have x2:=hq2.cell 2 rfl
  have x3:=hq2.cell 3 rfl
  have x4:=hq2.cell 4 rfl
  have x5:=hq2.cell 5 rfl
  have x6:=hq2.cell 6 rfl
  have x7:=hq2.cell 7 rfl
  have x8:=hq2.cell 8 rfl
  have x9:=hq2.cell 9 rfl
  have x10:=hq2.cell 10 rfl
  have x11:=hq2.cell 11 rfl
  have x12:=hq2.cell 12 rfl
  have hB:=Hd (hal.out.trans (hb2.mono hal.out.size))
  have z1:=(hB.out.cell (p:=⟨bb,off,none⟩) h4).trans z0
  clear hal hb2 cV hq hq2 hr z0 h5
  go_wp2
  all_goals go_ret
  all_goals refine⟨?_,hB.out⟩
  all_goals clear hB x0 x1 x2 x3 x4 x5 x6 x7 x8 x9 x10 x11 x12 hla z1
  all_goals first
   |(show Ending.returned (.bool false)=_;simp_all;done)
   |(show Ending.returned (.bool false)=_;have hg1:gp≠0:=(by omega);simp_all;done)
   |(show Ending.returned (.bool (op != 0))=_;have hg1:gp=0:=(by omega);simp_all;done)
   |(show Ending.returned (.bool (!(op==0)))=_;have hg1:gp=0:=(by omega);simp_all;done)
   |trace_state
theorem fields_all(w:World)(hE:Env w)(op:Int)(t:ByteArray)(ht:t.size≤1048576)(k:Int)(b:Bool)(n:Int)(t2 u2:ByteArray)(h2:t2.size≤1048576)(h3:u2.size≤1048576)(s:Value)(l:List V)(hla:LA w 1048576 s l)(f:Bool)(sa:Value)(ap am ag:Option Addr)(p:List P)(cp mt cm gp cg:Nat)(hp:PS w 1048576 (.slice ap p.length cp) p)(hm:mt≤1048576)(hg:gp≤1048576):
 Calls Tryz.prog 48 #[.agg (c13 op t k b n t2 u2 s f sa (.slice ap p.length cp) (.slice am mt cm) (.slice ag gp cg))] w fun e w'=>e=.returned (.bool (fieldsR op t (.mk k b n t2 u2 l) f p mt gp))∧Below w.heap.size w w':=by
 obtain⟨_,_,_,hpl⟩:=ps_form hp
 unfold fieldsR nulV
 by_cases o1:op=1
 ·subst o1
  exact fields_lit w hE t k b n t2 u2 s l hla h2 h3 f sa ap am ag p.length cp mt cm gp cg hpl hm hg
 rw[if_neg o1]
 by_cases o2:op=2
 ·subst o2
  exact fields_2 w hE t ht k b n t2 u2 s l hla f sa ap am ag p.length cp mt cm gp cg hpl hm hg
 rw[if_neg o2]
 by_cases o3:op=3
 ·subst o3
  exact fields_3 w t (by omega) k b n t2 u2 s l hla f sa ap am ag p.length cp mt cm gp cg hpl hm hg
 rw[if_neg o3]
 by_cases o16:op=16
 ·subst o16
  exact fields_16 w t k b n t2 u2 s l hla f sa ap am ag p.length cp mt cm gp cg hpl hm hg
 rw[if_neg o16]
 by_cases o26:op=26
 ·subst o26
  exact fields_26 w t k b n t2 u2 s l hla f sa ap am ag p.length cp mt cm gp cg hpl hm hg
 rw[if_neg o26]
 by_cases o28:op=28
 ·subst o28
  exact fields_28 w t k b n t2 u2 s l hla f sa ap am ag p.length cp mt cm gp cg hpl hm hg
 rw[if_neg o28]
 by_cases o29:op=29
 ·subst o29
  have h:=fields_29 w t k b n t2 u2 s l hla f sa ap am ag p p.length cp mt cm gp cg rfl hpl hp hm hg
  exact h
 rw[if_neg o29]
 exact fields_plain w op o1 o2 o3 o26 o28 o16 o29 t k b n t2 u2 s l hla f sa ap am ag p.length cp mt cm gp cg hpl hm hg
end Go.Proofs.YtcaeipdgbaligaaGreatDoor.ex
