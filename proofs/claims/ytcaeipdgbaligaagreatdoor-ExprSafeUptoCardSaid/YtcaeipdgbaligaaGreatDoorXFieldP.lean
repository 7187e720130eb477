/- Texts XFieldL, XFieldO, XFieldP, one behind the other. -/
import Derived.Test.YtcaeipdgbaligaaGreatDoorXName
set_option linter.unusedSimpArgs false
set_option linter.unusedVariables false
set_option maxHeartbeats 4000000
namespace Go.Proofs.YtcaeipdgbaligaaGreatDoor.ex
open Go.ChangeShapes Go.WideShapes Go.ChangeAt Go.RowKit kit dec val
set_option maxRecDepth 100000
theorem fields_lit(w:World)(hE:Env w)(t:ByteArray)(k:Int)(b:Bool)(n:Int)(t2 u2:ByteArray)(s:Value)(l:List V)(hla:LA w 1048576 s l)(h2:t2.size≤1048576)(h3:u2.size≤1048576)(f:Bool)(sa:Value)(ap am ag:Option Addr)(pl cp mt cm gp cg:Nat)(hp:pl≤1048576)(hm:mt≤1048576)(hg:gp≤1048576):
 Calls Tryz.prog 48 #[.agg #[.int .i64 1,.string t,.int .i64 k,.bool b,.int .i64 n,.string t2,.string u2,s,.bool f,sa,.slice ap pl cp,.slice am mt cm,.slice ag gp cg]] w fun e w'=>e=.returned (.bool (mayV (.mk k b n t2 u2 l)&&(emp t&&(!f&&(decide (mt=0)&&(decide (gp=0)&&decide (pl=0)))))))∧Below w.heap.size w w':=by
 have hq:=Blk.new w #[.int .i64 1,.string t,.int .i64 k,.bool b,.int .i64 n,.string t2,.string u2,s,.bool f,sa,.slice ap pl cp,.slice am mt cm,.slice ag gp cg] 43
 have hal:Below w.heap.size w (w.alloc (.cells #[.int .i64 1,.string t,.int .i64 k,.bool b,.int .i64 n,.string t2,.string u2,s,.bool f,sa,.slice ap pl cp,.slice am mt cm,.slice ag gp cg] 43)):=(Below.refl _ _).alloc (Nat.le_refl _) _
 have cV:=check_any 1048576 (by omega) (w.alloc (.cells #[.int .i64 1,.string t,.int .i64 k,.bool b,.int .i64 n,.string t2,.string u2,s,.bool f,sa,.slice ap pl cp,.slice am mt cm,.slice ag gp cg] 43)) (hE.below hal) k b n t2 u2 s l (hla.stay hal) h2 h3
 unfold agg6 at cV
 have x0:=hq.cell 0 rfl
 have x1:=hq.cell 1 rfl
 have x2:=hq.cell 2 rfl
 have x3:=hq.cell 3 rfl
 have x4:=hq.cell 4 rfl
 have x5:=hq.cell 5 rfl
 have x6:=hq.cell 6 rfl
 have x7:=hq.cell 7 rfl
 have x8:=hq.cell 8 rfl
 have x9:=hq.cell 9 rfl
 have x10:=hq.cell 10 rfl
 have x11:=hq.cell 11 rfl
 have x12:=hq.cell 12 rfl
 replace hal:=Hd hal
 replace hq:=Hd hq
 generalize hr:mayV (.mk k b n t2 u2 l)=r at cV ⊢
 replace cV:=Hd cV
 cases r
 ·rw[Bool.false_and]
  go_enter Tryz.func48,Tryz.ntmps48
  go_wp2_with fail
  refine cV.out.mono ?_
  rintro e w2 ⟨rfl,hb2⟩
  clear x0 x1 x2 x3 x4 x5 x6 x7 x8 x9 x10 x11 x12
  have hq2:Blk w2 w.heap.size #[.int .i64 1,.string t,.int .i64 k,.bool b,.int .i64 n,.string t2,.string u2,s,.bool f,sa,.slice ap pl cp,.slice am mt cm,.slice ag gp cg] 43:=(hb2.block _ hq.out.lt).trans hq.out
  have x0:=hq2.cell 0 rfl
  have x1:=hq2.cell 1 rfl
  have x2:=hq2.cell 2 rfl
  have x3:=hq2.cell 3 rfl
  have x4:=hq2.cell 4 rfl
  have x5:=hq2.cell 5 rfl
  have x6:=hq2.cell 6 rfl
  have x7:=hq2.cell 7 rfl
  have x8:=hq2.cell 8 rfl
  have x9:=hq2.cell 9 rfl
  have x10:=hq2.cell 10 rfl
  have x11:=hq2.cell 11 rfl
  have x12:=hq2.cell 12 rfl
  have hB:=Hd (hal.out.trans (hb2.mono hal.out.size))
  clear hal hb2 cV hq hq2
  go_wp2
  go_ret
  exact⟨rfl,hB.out⟩
 rw[Bool.true_and]
 have he:emp t=t.toList.isEmpty:=by
  rw[Go.ByteArray.toList_eq]
  unfold emp
  rw[Bool.eq_iff_iff,decide_eq_true_eq,List.isEmpty_iff,←List.length_eq_zero_iff]
  exact Iff.rfl
 have hpz:((pl:Int)==0)=decide (pl=0):=by
  rw[Bool.eq_iff_iff,beq_iff_eq,decide_eq_true_eq]
  omega
 rw[he]
 clear he
 go_enter Tryz.func48,Tryz.ntmps48
 go_wp2_with fail
 refine cV.out.mono ?_
 rintro e w2 ⟨rfl,hb2⟩
 clear x0 x1 x2 x3 x4 x5 x6 x7 x8 x9 x10 x11 x12
 have hq2:Blk w2 w.heap.size #[.int .i64 1,.string t,.int .i64 k,.bool b,.int .i64 n,.string t2,.string u2,s,.bool f,sa,.slice ap pl cp,.slice am mt cm,.slice ag gp cg] 43:=(hb2.block _ hq.out.lt).trans hq.out
 have x0:=hq2.cell 0 rfl
 have x1:=hq2.cell 1 rfl
 have x2:=hq2.cell 2 rfl
 have x3:=hq2.cell 3 rfl
 have x4:=hq2.cell 4 rfl
 have x5:=hq2.cell 5 rfl
 have x6:=hq2.cell 6 rfl
 have x7:=hq2.cell 7 rfl
 have x8:=hq2.cell 8 rfl
 have x9:=hq2.cell 9 rfl
 have x10:=hq2.cell 10 rfl
 have x11:=hq2.cell 11 rfl
 have x12:=hq2.cell 12 rfl
 have hB:=Hd (hal.out.trans (hb2.mono hal.out.size))
 clear hal hb2 cV hq hq2
 go_wp2
 all_goals go_ret
 all_goals refine⟨?_,hB.out⟩
 all_goals clear hB hE x0 x1 x2 x3 x4 x5 x6 x7 x8 x9 x10 x11 x12 hla
 all_goals first
  |(show Ending.returned (.bool false)=_;simp_all;done)
  |(show Ending.returned (.bool false)=_;have hg1:gp≠0:=(by omega);simp_all;done)
  |(show Ending.returned (.bool ((pl:Int)==0))=_;have hg1:gp=0:=(by omega);rw[hpz];simp_all;done)
  |(show Ending.returned (.bool (decide (pl=0)))=_;have hg1:gp=0:=(by omega);simp_all;done)
  |trace_state
end Go.Proofs.YtcaeipdgbaligaaGreatDoor.ex
set_option linter.unusedSimpArgs false
set_option linter.unusedVariables false
set_option maxHeartbeats 4000000
namespace Go.Proofs.YtcaeipdgbaligaaGreatDoor.ex
open Go.ChangeShapes Go.WideShapes Go.ChangeAt Go.RowKit kit dec val
set_option maxRecDepth 100000
theorem fields_plain(w:World)(op:Int)(o1:op≠1)(o2:op≠2)(o3:op≠3)(o26:op≠26)(o28:op≠28)(o16:op≠16)(o29:op≠29)(t:ByteArray)(k:Int)(b:Bool)(n:Int)(t2 u2:ByteArray)(s:Value)(l:List V)(hla:LA w 1048576 s l)(f:Bool)(sa:Value)(ap am ag:Option Addr)(pl cp mt cm gp cg:Nat)(hp:pl≤1048576)(hm:mt≤1048576)(hg:gp≤1048576):
 Calls Tryz.prog 48 #[.agg #[.int .i64 op,.string t,.int .i64 k,.bool b,.int .i64 n,.string t2,.string u2,s,.bool f,sa,.slice ap pl cp,.slice am mt cm,.slice ag gp cg]] w fun e w'=>e=.returned (.bool (sameP (.mk k b n t2 u2 l) (.mk 0 false 0 ByteArray.empty ByteArray.empty [])&&(emp t&&(!f&&(decide (mt=0)&&(decide (gp=0)&&decide (pl=0)))))))∧Below w.heap.size w w':=by
 have hq:=Blk.new w #[.int .i64 op,.string t,.int .i64 k,.bool b,.int .i64 n,.string t2,.string u2,s,.bool f,sa,.slice ap pl cp,.slice am mt cm,.slice ag gp cg] 43
 have hal:Below w.heap.size w (w.alloc (.cells #[.int .i64 op,.string t,.int .i64 k,.bool b,.int .i64 n,.string t2,.string u2,s,.bool f,sa,.slice ap pl cp,.slice am mt cm,.slice ag gp cg] 43)):=(Below.refl _ _).alloc (Nat.le_refl _) _
 have cV:=same_call 1048576 (by omega) (w.alloc (.cells #[.int .i64 op,.string t,.int .i64 k,.bool b,.int .i64 n,.string t2,.string u2,s,.bool f,sa,.slice ap pl cp,.slice am mt cm,.slice ag gp cg] 43)) k b n t2 u2 s l 0 false 0 ByteArray.empty ByteArray.empty (.slice none 0 0) [] (hla.stay hal) (.mk none 0 [] (by simp) (fun j hj=>by simp at hj))
 unfold agg6 at cV
 have x0:=hq.cell 0 rfl
 have x1:=hq.cell 1 rfl
 have x2:=hq.cell 2 rfl
 have x3:=hq.cell 3 rfl
 have x4:=hq.cell 4 rfl
 have x5:=hq.cell 5 rfl
 have x6:=hq.cell 6 rfl
 have x7:=hq.cell 7 rfl
 have x8:=hq.cell 8 rfl
 have x9:=hq.cell 9 rfl
 have x10:=hq.cell 10 rfl
 have x11:=hq.cell 11 rfl
 have x12:=hq.cell 12 rfl
 replace hal:=Hd hal
 replace hq:=Hd hq
 generalize hr:sameP (.mk k b n t2 u2 l) (.mk 0 false 0 ByteArray.empty ByteArray.empty [])=r at cV ⊢
 replace cV:=Hd cV
 have he:emp t=t.toList.isEmpty:=by
  rw[Go.ByteArray.toList_eq]
  unfold emp
  rw[Bool.eq_iff_iff,decide_eq_true_eq,List.isEmpty_iff,←List.length_eq_zero_iff]
  exact Iff.rfl
 have hpz:((pl:Int)==0)=decide (pl=0):=by
  rw[Bool.eq_iff_iff,beq_iff_eq,decide_eq_true_eq]
  omega
 rw[he]
 clear he
 have q1:(op==1)=false:=beq_eq_false_iff_ne.2 o1
 have q2:(op==2)=false:=beq_eq_false_iff_ne.2 o2
 have q3:(op==3)=false:=beq_eq_false_iff_ne.2 o3
 have q26:(op==26)=false:=beq_eq_false_iff_ne.2 o26
 have q28:(op==28)=false:=beq_eq_false_iff_ne.2 o28
 have q16:(op==16)=false:=beq_eq_false_iff_ne.2 o16
 have q29:(op==29)=false:=beq_eq_false_iff_ne.2 o29
 go_enter Tryz.func48,Tryz.ntmps48
 go_wp2_with fail
 refine cV.out.mono ?_
 rintro e w2 ⟨rfl,hb2⟩
 clear x0 x1 x2 x3 x4 x5 x6 x7 x8 x9 x10 x11 x12
 have hq2:Blk w2 w.heap.size #[.int .i64 op,.string t,.int .i64 k,.bool b,.int .i64 n,.string t2,.string u2,s,.bool f,sa,.slice ap pl cp,.slice am mt cm,.slice ag gp cg] 43:=(hb2.block _ hq.out.lt).trans hq.out
 have x0:=hq2.cell 0 rfl
 have x1:=hq2.cell 1 rfl
 have x2:=hq2.cell 2 rfl
 have x3:=hq2.cell 3 rfl
 have x4:=hq2.cell 4 rfl
 have x5:=hq2.cell 5 rfl
 have x6:=hq2.cell 6 rfl
 have x7:=hq2.cell 7 rfl
 have x8:=hq2.cell 8 rfl
 have x9:=hq2.cell 9 rfl
 have x10:=hq2.cell 10 rfl
 have x11:=hq2.cell 11 rfl
 have x12:=hq2.cell 12 rfl
 have hB:=Hd (hal.out.trans (hb2.mono hal.out.size))
 clear hal hb2 cV hq hq2 hr
 go_wp2
 all_goals go_ret
 all_goals refine⟨?_,hB.out⟩
 all_goals clear hB x0 x1 x2 x3 x4 x5 x6 x7 x8 x9 x10 x11 x12 hla
 all_goals first
  |(show Ending.returned (.bool false)=_;simp_all;done)
  |(show Ending.returned (.bool false)=_;have hg1:gp≠0:=(by omega);simp_all;done)
  |(show Ending.returned (.bool ((pl:Int)==0))=_;have hg1:gp=0:=(by omega);rw[hpz];simp_all;done)
  |(show Ending.returned (.bool (decide (pl=0)))=_;have hg1:gp=0:=(by omega);simp_all;done)
  |trace_state
end Go.Proofs.YtcaeipdgbaligaaGreatDoor.ex
set_option linter.unusedSimpArgs false
set_option linter.unusedVariables false
set_option maxHeartbeats 4000000
namespace Go.Proofs.YtcaeipdgbaligaaGreatDoor.ex
open Go.ChangeShapes Go.WideShapes Go.ChangeAt Go.RowKit kit dec val
set_option maxRecDepth 100000
theorem fields_16(w:World)(t:ByteArray)(k:Int)(b:Bool)(n:Int)(t2 u2:ByteArray)(s:Value)(l:List V)(hla:LA w 1048576 s l)(f:Bool)(sa:Value)(ap am ag:Option Addr)(pl cp mt cm gp cg:Nat)(hp:pl≤1048576)(hm:mt≤1048576)(hg:gp≤1048576):
 Calls Tryz.prog 48 #[.agg #[.int .i64 16,.string t,.int .i64 k,.bool b,.int .i64 n,.string t2,.string u2,s,.bool f,sa,.slice ap pl cp,.slice am mt cm,.slice ag gp cg]] w fun e w'=>e=.returned (.bool (sameP (.mk k b n t2 u2 l) (.mk 0 false 0 ByteArray.empty ByteArray.empty [])&&(emp t&&(decide (mt=0)&&(decide (gp=0)&&decide (pl=0))))))∧Below w.heap.size w w':=by
 have hq:=Blk.new w #[.int .i64 16,.string t,.int .i64 k,.bool b,.int .i64 n,.string t2,.string u2,s,.bool f,sa,.slice ap pl cp,.slice am mt cm,.slice ag gp cg] 43
 have hal:Below w.heap.size w (w.alloc (.cells #[.int .i64 16,.string t,.int .i64 k,.bool b,.int .i64 n,.string t2,.string u2,s,.bool f,sa,.slice ap pl cp,.slice am mt cm,.slice ag gp cg] 43)):=(Below.refl _ _).alloc (Nat.le_refl _) _
 have cV:=same_call 1048576 (by omega) (w.alloc (.cells #[.int .i64 16,.string t,.int .i64 k,.bool b,.int .i64 n,.string t2,.string u2,s,.bool f,sa,.slice ap pl cp,.slice am mt cm,.slice ag gp cg] 43)) k b n t2 u2 s l 0 false 0 ByteArray.empty ByteArray.empty (.slice none 0 0) [] (hla.stay hal) (.mk none 0 [] (by simp) (fun j hj=>by simp at hj))
 unfold agg6 at cV
 have x0:=hq.cell 0 rfl
 have x1:=hq.cell 1 rfl
 have x2:=hq.cell 2 rfl
 have x3:=hq.cell 3 rfl
 have x4:=hq.cell 4 rfl
 have x5:=hq.cell 5 rfl
 have x6:=hq.cell 6 rfl
 have x7:=hq.cell 7 rfl
 have x8:=hq.cell 8 rfl
 have x9:=hq.cell 9 rfl
 have x10:=hq.cell 10 rfl
 have x11:=hq.cell 11 rfl
 have x12:=hq.cell 12 rfl
 replace hal:=Hd hal
 replace hq:=Hd hq
 generalize hr:sameP (.mk k b n t2 u2 l) (.mk 0 false 0 ByteArray.empty ByteArray.empty [])=r at cV ⊢
 replace cV:=Hd cV
 have he:emp t=t.toList.isEmpty:=by
  rw[Go.ByteArray.toList_eq]
  unfold emp
  rw[Bool.eq_iff_iff,decide_eq_true_eq,List.isEmpty_iff,←List.length_eq_zero_iff]
  exact Iff.rfl
 have hpz:((pl:Int)==0)=decide (pl=0):=by
  rw[Bool.eq_iff_iff,beq_iff_eq,decide_eq_true_eq]
  omega
 rw[he]
 clear he
 go_enter Tryz.func48,Tryz.ntmps48
 go_wp2_with fail
 refine cV.out.mono ?_
 rintro e w2 ⟨rfl,hb2⟩
 clear x0 x1 x2 x3 x4 x5 x6 x7 x8 x9 x10 x11 x12
 have hq2:Blk w2 w.heap.size #[.int .i64 16,.string t,.int .i64 k,.bool b,.int .i64 n,.string t2,.string u2,s,.bool f,sa,.slice ap pl cp,.slice am mt cm,.slice ag gp cg] 43:=(hb2.block _ hq.out.lt).trans hq.out
 have x0:=hq2.cell 0 rfl
 have x1:=hq2.cell 1 rfl
 have x2:=hq2.cell 2 rfl
 have x3:=hq2.cell 3 rfl
 have x4:=hq2.cell 4 rfl
 have x5:=hq2.cell 5 rfl
 have x6:=hq2.cell 6 rfl
 have x7:=hq2.cell 7 rfl
 have x8:=hq2.cell 8 rfl
 have x9:=hq2.cell 9 rfl
 have x10:=hq2.cell 10 rfl
 have x11:=hq2.cell 11 rfl
 have x12:=hq2.cell 12 rfl
 have hB:=Hd (hal.out.trans (hb2.mono hal.out.size))
 clear hal hb2 cV hq hq2 hr
 go_wp2
 all_goals go_ret
 all_goals refine⟨?_,hB.out⟩
 all_goals clear hB x0 x1 x2 x3 x4 x5 x6 x7 x8 x9 x10 x11 x12 hla
 all_goals first
  |(show Ending.returned (.bool false)=_;simp_all;done)
  |(show Ending.returned (.bool false)=_;have hg1:gp≠0:=(by omega);simp_all;done)
  |(show Ending.returned (.bool ((pl:Int)==0))=_;have hg1:gp=0:=(by omega);rw[hpz];simp_all;done)
  |(show Ending.returned (.bool (decide (pl=0)))=_;have hg1:gp=0:=(by omega);simp_all;done)
  |trace_state
theorem fields_26(w:World)(t:ByteArray)(k:Int)(b:Bool)(n:Int)(t2 u2:ByteArray)(s:Value)(l:List V)(hla:LA w 1048576 s l)(f:Bool)(sa:Value)(ap am ag:Option Addr)(pl cp mt cm gp cg:Nat)(hp:pl≤1048576)(hm:mt≤1048576)(hg:gp≤1048576):
 Calls Tryz.prog 48 #[.agg #[.int .i64 26,.string t,.int .i64 k,.bool b,.int .i64 n,.string t2,.string u2,s,.bool f,sa,.slice ap pl cp,.slice am mt cm,.slice ag gp cg]] w fun e w'=>e=.returned (.bool (sameP (.mk k b n t2 u2 l) (.mk 0 false 0 ByteArray.empty ByteArray.empty [])&&(!f&&(decide (mt=0)&&(decide (gp=0)&&decide (pl=0))))))∧Below w.heap.size w w':=by
 have hq:=Blk.new w #[.int .i64 26,.string t,.int .i64 k,.bool b,.int .i64 n,.string t2,.string u2,s,.bool f,sa,.slice ap pl cp,.slice am mt cm,.slice ag gp cg] 43
 have hal:Below w.heap.size w (w.alloc (.cells #[.int .i64 26,.string t,.int .i64 k,.bool b,.int .i64 n,.string t2,.string u2,s,.bool f,sa,.slice ap pl cp,.slice am mt cm,.slice ag gp cg] 43)):=(Below.refl _ _).alloc (Nat.le_refl _) _
 have cV:=same_call 1048576 (by omega) (w.alloc (.cells #[.int .i64 26,.string t,.int .i64 k,.bool b,.int .i64 n,.string t2,.string u2,s,.bool f,sa,.slice ap pl cp,.slice am mt cm,.slice ag gp cg] 43)) k b n t2 u2 s l 0 false 0 ByteArray.empty ByteArray.empty (.slice none 0 0) [] (hla.stay hal) (.mk none 0 [] (by simp) (fun j hj=>by simp at hj))
 unfold agg6 at cV
 have x0:=hq.cell 0 rfl
 have x1:=hq.cell 1 rfl
 have x2:=hq.cell 2 rfl
 have x3:=hq.cell 3 rfl
 have x4:=hq.cell 4 rfl
 have x5:=hq.cell 5 rfl
 have x6:=hq.cell 6 rfl
 have x7:=hq.cell 7 rfl
 have x8:=hq.cell 8 rfl
 have x9:=hq.cell 9 rfl
 have x10:=hq.cell 10 rfl
 have x11:=hq.cell 11 rfl
 have x12:=hq.cell 12 rfl
 replace hal:=Hd hal
 replace hq:=Hd hq
 generalize hr:sameP (.mk k b n t2 u2 l) (.mk 0 false 0 ByteArray.empty ByteArray.empty [])=r at cV ⊢
 replace cV:=Hd cV
 have he:emp t=t.toList.isEmpty:=by
  rw[Go.ByteArray.toList_eq]
  unfold emp
  rw[Bool.eq_iff_iff,decide_eq_true_eq,List.isEmpty_iff,←List.length_eq_zero_iff]
  exact Iff.rfl
 have hpz:((pl:Int)==0)=decide (pl=0):=by
  rw[Bool.eq_iff_iff,beq_iff_eq,decide_eq_true_eq]
  omega
 clear he
 go_enter Tryz.func48,Tryz.ntmps48
 go_wp2_with fail
 refine cV.out.mono ?_
 rintro e w2 ⟨rfl,hb2⟩
 clear x0 x1 x2 x3 x4 x5 x6 x7 x8 x9 x10 x11 x12
 have hq2:Blk w2 w.heap.size #[.int .i64 26,.string t,.int .i64 k,.bool b,.int .i64 n,.string t2,.string u2,s,.bool f,sa,.slice ap pl cp,.slice am mt cm,.slice ag gp cg] 43:=(hb2.block _ hq.out.lt).trans hq.out
 have x0:=hq2.cell 0 rfl
 have x1:=hq2.cell 1 rfl
 have x2:=hq2.cell 2 rfl
 have x3:=hq2.cell 3 rfl
 have x4:=hq2.cell 4 rfl
 have x5:=hq2.cell 5 rfl
 have x6:=hq2.cell 6 rfl
 have x7:=hq2.cell 7 rfl
 have x8:=hq2.cell 8 rfl
 have x9:=hq2.cell 9 rfl
 have x10:=hq2.cell 10 rfl
 have x11:=hq2.cell 11 rfl
 have x12:=hq2.cell 12 rfl
 have hB:=Hd (hal.out.trans (hb2.mono hal.out.size))
 clear hal hb2 cV hq hq2 hr
 go_wp2
 all_goals go_ret
 all_goals refine⟨?_,hB.out⟩
 all_goals clear hB x0 x1 x2 x3 x4 x5 x6 x7 x8 x9 x10 x11 x12 hla
 all_goals first
  |(show Ending.returned (.bool false)=_;simp_all;done)
  |(show Ending.returned (.bool false)=_;have hg1:gp≠0:=(by omega);simp_all;done)
  |(show Ending.returned (.bool ((pl:Int)==0))=_;have hg1:gp=0:=(by omega);rw[hpz];simp_all;done)
  |(show Ending.returned (.bool (decide (pl=0)))=_;have hg1:gp=0:=(by omega);simp_all;done)
  |trace_state
theorem fields_28(w:World)(t:ByteArray)(k:Int)(b:Bool)(n:Int)(t2 u2:ByteArray)(s:Value)(l:List V)(hla:LA w 1048576 s l)(f:Bool)(sa:Value)(ap am ag:Option Addr)(pl cp mt cm gp cg:Nat)(hp:pl≤1048576)(hm:mt≤1048576)(hg:gp≤1048576):
 Calls Tryz.prog 48 #[.agg #[.int .i64 28,.string t,.int .i64 k,.bool b,.int .i64 n,.string t2,.string u2,s,.bool f,sa,.slice ap pl cp,.slice am mt cm,.slice ag gp cg]] w fun e w'=>e=.returned (.bool (sameP (.mk k b n t2 u2 l) (.mk 0 false 0 ByteArray.empty ByteArray.empty [])&&(decide (mt=0)&&(decide (gp=0)&&decide (pl=0)))))∧Below w.heap.size w w':=by
 have hq:=Blk.new w #[.int .i64 28,.string t,.int .i64 k,.bool b,.int .i64 n,.string t2,.string u2,s,.bool f,sa,.slice ap pl cp,.slice am mt cm,.slice ag gp cg] 43
 have hal:Below w.heap.size w (w.alloc (.cells #[.int .i64 28,.string t,.int .i64 k,.bool b,.int .i64 n,.string t2,.string u2,s,.bool f,sa,.slice ap pl cp,.slice am mt cm,.slice ag gp cg] 43)):=(Below.refl _ _).alloc (Nat.le_refl _) _
 have cV:=same_call 1048576 (by omega) (w.alloc (.cells #[.int .i64 28,.string t,.int .i64 k,.bool b,.int .i64 n,.string t2,.string u2,s,.bool f,sa,.slice ap pl cp,.slice am mt cm,.slice ag gp cg] 43)) k b n t2 u2 s l 0 false 0 ByteArray.empty ByteArray.empty (.slice none 0 0) [] (hla.stay hal) (.mk none 0 [] (by simp) (fun j hj=>by simp at hj))
 unfold agg6 at cV
 have x0:=hq.cell 0 rfl
 have x1:=hq.cell 1 rfl
 have x2:=hq.cell 2 rfl
 have x3:=hq.cell 3 rfl
 have x4:=hq.cell 4 rfl
 have x5:=hq.cell 5 rfl
 have x6:=hq.cell 6 rfl
 have x7:=hq.cell 7 rfl
 have x8:=hq.cell 8 rfl
 have x9:=hq.cell 9 rfl
 have x10:=hq.cell 10 rfl
 have x11:=hq.cell 11 rfl
 have x12:=hq.cell 12 rfl
 replace hal:=Hd hal
 replace hq:=Hd hq
 generalize hr:sameP (.mk k b n t2 u2 l) (.mk 0 false 0 ByteArray.empty ByteArray.empty [])=r at cV ⊢
 replace cV:=Hd cV
 have he:emp t=t.toList.isEmpty:=by
  rw[Go.ByteArray.toList_eq]
  unfold emp
  rw[Bool.eq_iff_iff,decide_eq_true_eq,List.isEmpty_iff,←List.length_eq_zero_iff]
  exact Iff.rfl
 have hpz:((pl:Int)==0)=decide (pl=0):=by
  rw[Bool.eq_iff_iff,beq_iff_eq,decide_eq_true_eq]
  omega
 clear he
 go_enter Tryz.func48,Tryz.ntmps48
 go_wp2_with fail
 refine cV.out.mono ?_
 rintro e w2 ⟨rfl,hb2⟩
 clear x0 x1 x2 x3 x4 x5 x6 x7 x8 x9 x10 x11 x12
 have hq2:Blk w2 w.heap.size #[.int .i64 28,.string t,.int .i64 k,.bool b,.int .i64 n,.string t2,.string u2,s,.bool f,sa,.slice ap pl cp,.slice am mt cm,.slice ag gp cg] 43:=(hb2.block _ hq.out.lt).trans hq.out
 have x0:=hq2.cell 0 rfl
 have x1:=hq2.cell 1 rfl
 have x2:=hq2.cell 2 rfl
 have x3:=hq2.cell 3 rfl
 have x4:=hq2.cell 4 rfl
 have x5:=hq2.cell 5 rfl
 have x6:=hq2.cell 6 rfl
 have x7:=hq2.cell 7 rfl
 have x8:=hq2.cell 8 rfl
 have x9:=hq2.cell 9 rfl
 have x10:=hq2.cell 10 rfl
 have x11:=hq2.cell 11 rfl
 have x12:=hq2.cell 12 rfl
 have hB:=Hd (hal.out.trans (hb2.mono hal.out.size))
 clear hal hb2 cV hq hq2 hr
 go_wp2
 all_goals go_ret
 all_goals refine⟨?_,hB.out⟩
 all_goals clear hB x0 x1 x2 x3 x4 x5 x6 x7 x8 x9 x10 x11 x12 hla
 all_goals first
  |(show Ending.returned (.bool false)=_;simp_all;done)
  |(show Ending.returned (.bool false)=_;have hg1:gp≠0:=(by omega);simp_all;done)
  |(show Ending.returned (.bool ((pl:Int)==0))=_;have hg1:gp=0:=(by omega);rw[hpz];simp_all;done)
  |(show Ending.returned (.bool (decide (pl=0)))=_;have hg1:gp=0:=(by omega);simp_all;done)
  |trace_state
end Go.Proofs.YtcaeipdgbaligaaGreatDoor.ex
