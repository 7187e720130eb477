/- Texts XAskOpen, LogicK, XBack, RegLate, one behind the other. -/
import Derived.Test.YtcaeipdgbaligaaGreatDoorXLight
set_option linter.unusedSimpArgs false
set_option linter.unusedVariables false
namespace Go.Proofs.YtcaeipdgbaligaaGreatDoor.ex
open Go.ChangeShapes Go.WideShapes Go.ChangeAt Go.RowKit kit dec val tab
open hyp (RowA TextsA textsV textsV_length)
set_option maxRecDepth 100000
structure AskM(w:World)(v:Value)(lang:Int)(xs:List X)(ns:List ByteArray)(vs:List V)(gn:List NodeD)(ge:List EdgeD):Prop where
 form:∃la lc na nc va vc an cn ae ce ka kn kc,v=.agg #[.int .i64 lang,.slice la xs.length lc,.slice na ns.length nc,.slice va vs.length vc,.slice an gn.length cn,.slice ae ge.length ce,.slice ka kn kc]∧XS w 1048576 (.slice la xs.length lc) xs∧TextsA w w.heap.size (.slice na ns.length nc) ns∧LA w 1048576 (.slice va vs.length vc) vs∧NodesA w 1048576 (.slice an gn.length cn) gn∧EdgesG w 1048576 (.slice ae ge.length ce) ge∧kn≤1048576∧vs.length≤vc
 few:ns.length≤1048576
 wf:In64 lang
theorem cap_of{H:Type}{enc:TypeId×Value→H}{W:World}{fuel:Nat}{cs:List Value}{x:DataW H×List MemPlace}(h:DataW.trod enc Tryz.prog W 0 (fun _=>true) true fuel 24 cs=some x):∃ao len cap,cs=[.slice ao len cap]∧len≤cap:=by
 obtain⟨ao,len,cap,rfl,hl,-,-⟩:=open_slice Tryz.underlying24 (e:=38) (m:=6) (by kernel_rfl) (by decide) h
 exact⟨_,_,_,rfl,hl⟩
theorem ask_of{H:Type}{enc:TypeId×Value→H}{W:World}{base:Nat}{v:Value}{d:DataW H}{p:List MemPlace}
 (hv:Value.okWide Tryz.prog W .any base 31 v)(h:DataW.Trod enc Tryz.prog W 0 (fun _=>true) true 31 v d p)(hb:Rows.uptoBulk d≤1048576):
 ∃lang xs ns vs gn ge,AskM W v lang xs ns vs gn ge:=by
 obtain⟨cs,rfl,hsz⟩:=okWide_struct Tryz.underlying31 hv
 have hC:Tryz.prog.cellsOf 31=7:=by kernel_rfl
 have hC0:Tryz.prog.cellsOf 3=1:=by kernel_rfl
 have hC1:Tryz.prog.cellsOf 22=1:=by kernel_rfl
 have hC2:Tryz.prog.cellsOf 23=1:=by kernel_rfl
 have hC3:Tryz.prog.cellsOf 24=1:=by kernel_rfl
 have hC4:Tryz.prog.cellsOf 28=2:=by kernel_rfl
 have hC5:Tryz.prog.cellsOf 29=1:=by kernel_rfl
 have hC6:Tryz.prog.cellsOf 25=1:=by kernel_rfl
 have hC7:Tryz.prog.cellsOf 26=1:=by kernel_rfl
 rw[hC]at hsz
 obtain⟨cs⟩:=cs
 obtain⟨fuel,hf⟩:=h
 obtain⟨xs,n',rfl,e,hcl,hxl,hfs⟩:=DataW.trod_struct Tryz.underlying31 hf
 match cs,hsz with
 | [c0, c1, c2, c3, c4, c5, c6], _ =>
  match xs,hxl with
  | [y0, y1, y2, y3, y4, y5], _ =>
   have f0:=hfs 0 _ rfl
   have f1:=hfs 1 _ rfl
   have f2:=hfs 2 _ rfl
   have f3:=hfs 3 _ rfl
   have f4:=hfs 4 _ rfl
   have f5:=hfs 5 _ rfl
   simp[Value.cells,hC0,hC1,hC2,hC3,hC4,hC5]at f0 f1 f2 f3 f4 f5
   have hd:d=.agg [y0.1,y1.1,y2.1,y3.1,y4.1,y5.1]:=by
    first|(have:=congrArg Prod.fst e;simpa using this)|(cases e;rfl)
   rw[hd]at hb
   simp only[Rows.uptoBulk,Rows.uptoBulkAll]at hb
   obtain⟨lang,e0,w0⟩:=int_of f0
   obtain⟨v1,l1,e1,t1,-⟩:=(opens 1048576 n').1 _ _ f1 (by omega)
   obtain⟨v2,l2,e2,t2,b2⟩:=texts_of f2
   obtain⟨a3,n3,p3,e3c,hcp⟩:=cap_of f3
   obtain⟨v3,l3,e3,t3,b3⟩:=la_of_trodW (N:=1048576) n' f3 (.inr (by omega))
   obtain⟨zs,n2,e4a,e4b,-,hzl,hz⟩:=DataW.trod_struct Tryz.underlying28 f4
   obtain⟨ka,kn,kc,e5,b5⟩:=len_of Tryz.underlying29 f5
   match zs,hzl with
   | [z0, z1], _ =>
    have g0:=hz 0 _ rfl
    have g1:=hz 1 _ rfl
    simp[hC6,hC7]at g0 g1
    have hy4:y4.1=.agg [z0.1,z1.1]:=by
     first|(have:=congrArg Prod.fst e4b;simpa using this)|(rw[e4b];rfl)
    rw[hy4]at hb
    simp only[Rows.uptoBulk,Rows.uptoBulkAll]at hb
    obtain⟨v4,l4,e6,t4⟩:=nodes_of (N:=1048576) g0 (by omega)
    obtain⟨v5,l5,e7,t5⟩:=edges_of (N:=1048576) g1 (by omega)
    simp only[List.cons.injEq,and_true]at e0 e1 e2 e3 e5 e6 e7
    simp only[List.cons.injEq,and_true]at e3c
    subst e0 e1 e2 e3 e5 e6 e7
    obtain⟨la,lc,rfl,-⟩:=xs_form t1
    obtain⟨na,nc,rfl,-⟩:=t2.form
    obtain⟨va,vc,rfl⟩:=t3.form6
    injection e3c with _ e3d e3e
    obtain⟨an,cn,rfl,-,-⟩:=id t4
    obtain⟨ae,ce,rfl,-,-⟩:=id t5
    exact⟨lang,l1,l2,l3,l4,l5,⟨la,lc,na,nc,va,vc,an,cn,ae,ce,ka,kn,kc,rfl,t1,t2,t3,t4,t5,by omega,by omega⟩,by omega,w0⟩
end Go.Proofs.YtcaeipdgbaligaaGreatDoor.ex
set_option linter.unusedVariables false
namespace Go.Proofs.YtcaeipdgbaligaaGreatDoor.logic
open Go.ChangeShapes Go.WideShapes Go.ChangeAt Go.RowKit
def pl(a:Int):Int:=if a=0∨a=1 then a else 2
theorem pl_cases(a:Int):pl a=0∨pl a=1∨pl a=2:=by unfold pl;split<;>omega
theorem pl_lo(a:Int):0≤pl a:=by have:=pl_cases a;omega
theorem pl_hi(a:Int):pl a≤2:=by have:=pl_cases a;omega
theorem plain_any(a:Int)(w:World):Calls Tryz.prog 102 #[.int .i64 a] w fun e w'=>e=.returned (.int .i64 (pl a))∧w'=w:=by
 by_cases h0:a=0
 ·subst h0
  go_enter Tryz.func102,Tryz.ntmps102
  go_wp2
  go_ret
  exact⟨rfl,rfl⟩
 ·by_cases h1:a=1
  ·subst h1
   go_enter Tryz.func102,Tryz.ntmps102
   go_wp2
   go_ret
   exact⟨rfl,rfl⟩
  ·have hp:pl a=2:=by unfold pl;rw[if_neg (by omega)]
   rw[hp]
   have g0:(a==0)=false:=by simpa using h0
   have g1:(a==1)=false:=by simpa using h1
   clear h0 h1 hp
   go_enter Tryz.func102,Tryz.ntmps102
   go_wp2
   go_ret
   exact⟨rfl,rfl⟩
def sel{α:Type}(i:Int)(x y z:α):α:=if i=0 then x else if i=1 then y else z
theorem ix33(i:Int)(h0:0≤i)(h2:i≤2)(c0 c1 c2 c3 c4 c5 c6 c7 c8:Int)(w:World):(Instr.index 162 (.agg #[.int .i64 c0,.int .i64 c1,.int .i64 c2,.int .i64 c3,.int .i64 c4,.int .i64 c5,.int .i64 c6,.int .i64 c7,.int .i64 c8]) (.int .i64 i)).run Tryz.prog w=.ok (.agg #[.int .i64 (sel i c0 c3 c6),.int .i64 (sel i c1 c4 c7),.int .i64 (sel i c2 c5 c8)]) w:=by
 have:i=0∨i=1∨i=2:=by omega
 rcases this with rfl|rfl|rfl<;>(show _=_;kernel_rfl)
theorem ix32(i:Int)(h0:0≤i)(h2:i≤2)(k0 k1 k2:Int)(w:World):(Instr.index 159 (.agg #[.int .i64 k0,.int .i64 k1,.int .i64 k2]) (.int .i64 i)).run Tryz.prog w=.ok (.int .i64 (sel i k0 k1 k2)) w:=by
 have:i=0∨i=1∨i=2:=by omega
 rcases this with rfl|rfl|rfl<;>(show _=_;kernel_rfl)
def not3(a:Int):Int:=sel (pl a) 1 0 2
def and3(a b:Int):Int:=sel (pl b) (sel (pl a) 0 0 0) (sel (pl a) 0 1 2) (sel (pl a) 0 2 2)
def or3(a b:Int):Int:=sel (pl b) (sel (pl a) 0 1 2) (sel (pl a) 1 1 1) (sel (pl a) 2 1 2)
def xor3(a b:Int):Int:=sel (pl b) (sel (pl a) 0 1 2) (sel (pl a) 1 0 2) (sel (pl a) 2 2 2)
theorem not_any(a:Int)(w:World):Calls Tryz.prog 64 #[.int .i64 a] w fun e w'=>e=.returned (.int .i64 (not3 a))∧w'=w:=by
 have ia:=fun(w:World) c0 c1 c2=>ix32 (pl a) (pl_lo a) (pl_hi a) c0 c1 c2 w
 go_enter Tryz.func64,Tryz.ntmps64
 go_wp2_with (go_at_call 102;refine(plain_any _ _).mono ?_;rintro e w' ⟨rfl,rfl⟩)
 go_ret
 exact⟨rfl,rfl⟩
theorem and_any(a b:Int)(w:World):Calls Tryz.prog 120 #[.int .i64 a,.int .i64 b] w fun e w'=>e=.returned (.int .i64 (and3 a b))∧∃n,w'=w.drewN n:=by
 have ia:=fun(w:World) c0 c1 c2 c3 c4 c5 c6 c7 c8=>ix33 (pl a) (pl_lo a) (pl_hi a) c0 c1 c2 c3 c4 c5 c6 c7 c8 w
 have ib:=fun(w:World) c0 c1 c2=>ix32 (pl b) (pl_lo b) (pl_hi b) c0 c1 c2 w
 go_enter Tryz.func120,Tryz.ntmps120
 go_wp2
 go_quiet ((go_at_call 102;exact Calls.quiet_of_same (plain_any _ _)))
 go_wp2
 go_ret
 exact⟨rfl,_,rfl⟩
theorem or_any(a b:Int)(w:World):Calls Tryz.prog 66 #[.int .i64 a,.int .i64 b] w fun e w'=>e=.returned (.int .i64 (or3 a b))∧∃n,w'=w.drewN n:=by
 have ia:=fun(w:World) c0 c1 c2 c3 c4 c5 c6 c7 c8=>ix33 (pl a) (pl_lo a) (pl_hi a) c0 c1 c2 c3 c4 c5 c6 c7 c8 w
 have ib:=fun(w:World) c0 c1 c2=>ix32 (pl b) (pl_lo b) (pl_hi b) c0 c1 c2 w
 go_enter Tryz.func66,Tryz.ntmps66
 go_wp2
 go_quiet ((go_at_call 102;exact Calls.quiet_of_same (plain_any _ _)))
 go_wp2
 go_ret
 exact⟨rfl,_,rfl⟩
theorem xor_any(a b:Int)(w:World):Calls Tryz.prog 121 #[.int .i64 a,.int .i64 b] w fun e w'=>e=.returned (.int .i64 (xor3 a b))∧∃n,w'=w.drewN n:=by
 have ia:=fun(w:World) c0 c1 c2 c3 c4 c5 c6 c7 c8=>ix33 (pl a) (pl_lo a) (pl_hi a) c0 c1 c2 c3 c4 c5 c6 c7 c8 w
 have ib:=fun(w:World) c0 c1 c2=>ix32 (pl b) (pl_lo b) (pl_hi b) c0 c1 c2 w
 go_enter Tryz.func121,Tryz.ntmps121
 go_wp2
 go_quiet ((go_at_call 102;exact Calls.quiet_of_same (plain_any _ _)))
 go_wp2
 go_ret
 exact⟨rfl,_,rfl⟩
end Go.Proofs.YtcaeipdgbaligaaGreatDoor.logic
set_option linter.unusedSimpArgs false
set_option linter.unusedVariables false
set_option maxHeartbeats 2000000
namespace Go.Proofs.YtcaeipdgbaligaaGreatDoor.ex
open Go.ChangeShapes Go.WideShapes Go.ChangeAt Go.RowKit kit dec val tab
set_option maxRecDepth 100000
def bkK(r:Int):Int:=if r=2 then 0 else 1
def bkB(r:Int):Bool:=decide (r=1)
theorem xback_any(r:Int)(hr:r=0∨r=1∨r=2)(w:World):Calls Tryz.prog 62 #[.int .i64 r] w fun e w'=>e=.returned (.tuple #[agg6 (bkK r) (bkB r) 0 ⟨#[]⟩ ⟨#[]⟩ (.slice none 0 0),.int .i64 0])∧Below w.heap.size w w':=by
 rcases hr with rfl|rfl|rfl
 ·go_enter Tryz.func62,Tryz.ntmps62
  go_wp2
  exact bodyPost_ret (v:=.tuple #[.agg #[.int .i64 1,.bool false,.int .i64 0,.string ⟨#[]⟩,.string ⟨#[]⟩,.slice none 0 0],.int .i64 0]) (res2 rfl _ _ w.heap.size 38 _ (0,0) _ _ rfl rfl (Blk.eq (Blk.new w #[.int .i64 1,.bool false,.int .i64 0,.string ⟨#[]⟩,.string ⟨#[]⟩,.slice none 0 0] 38)) Tryz.underlying38 rfl infoV6) rfl ⟨rfl,(Below.refl _ _).alloc (Nat.le_refl _) _⟩
 ·go_enter Tryz.func62,Tryz.ntmps62
  go_wp2
  exact bodyPost_ret (v:=.tuple #[.agg #[.int .i64 1,.bool true,.int .i64 0,.string ⟨#[]⟩,.string ⟨#[]⟩,.slice none 0 0],.int .i64 0]) (res2 rfl _ _ w.heap.size 38 _ (0,0) _ _ rfl rfl (Blk.eq (Blk.new w #[.int .i64 1,.bool true,.int .i64 0,.string ⟨#[]⟩,.string ⟨#[]⟩,.slice none 0 0] 38)) Tryz.underlying38 rfl infoV6) rfl ⟨rfl,(Below.refl _ _).alloc (Nat.le_refl _) _⟩
 ·go_enter Tryz.func62,Tryz.ntmps62
  go_wp2
  exact bodyPost_ret (v:=.tuple #[.agg #[.int .i64 0,.bool false,.int .i64 0,.string ⟨#[]⟩,.string ⟨#[]⟩,.slice none 0 0],.int .i64 0]) (res2 rfl _ _ w.heap.size 38 _ (0,0) _ _ rfl rfl (Blk.eq (Blk.new w #[.int .i64 0,.bool false,.int .i64 0,.string ⟨#[]⟩,.string ⟨#[]⟩,.slice none 0 0] 38)) Tryz.underlying38 rfl infoV6) rfl ⟨rfl,(Below.refl _ _).alloc (Nat.le_refl _) _⟩
theorem xbool_any(b:Bool)(w:World):Calls Tryz.prog 60 #[.bool b] w fun e w'=>e=.returned (agg6 1 b 0 ⟨#[]⟩ ⟨#[]⟩ (.slice none 0 0))∧Below w.heap.size w w':=by
 go_enter Tryz.func60,Tryz.ntmps60
 go_wp2
 exact bodyPost_ret (v:=.agg #[.int .i64 1,.bool b,.int .i64 0,.string ⟨#[]⟩,.string ⟨#[]⟩,.slice none 0 0]) (results_cell_row rfl _ _ w.heap.size 38 _ (0,0) _ rfl (Blk.eq (Blk.new w #[.int .i64 1,.bool b,.int .i64 0,.string ⟨#[]⟩,.string ⟨#[]⟩,.slice none 0 0] 38)) Tryz.underlying38 rfl infoV6) rfl ⟨rfl,(Below.refl _ _).alloc (Nat.le_refl _) _⟩
theorem bool_may(b:Bool):mayV (.mk 1 b 0 ⟨#[]⟩ ⟨#[]⟩ [])=true:=by cases b<;>decide
theorem null_mayV:mayV (.mk 0 false 0 ⟨#[]⟩ ⟨#[]⟩ [])=true:=by decide
def tvB(b:Bool):Int:=if b=true then 1 else 0
theorem xtruth_b(w:World)(b:Bool):Calls Tryz.prog 118 #[.bool b] w fun e w'=>e=.returned (.int .i64 (tvB b))∧w'=w:=by
 cases b
 all_goals
  go_enter Tryz.func118,Tryz.ntmps118
  go_wp2
  go_ret
  exact⟨rfl,rfl⟩
def ofC(k:Int)(b:Bool):Int:=if k=1 then tvB b else 2
theorem ofC_in(k:Int)(b:Bool):ofC k b=0∨ofC k b=1∨ofC k b=2:=by
 unfold ofC tvB
 split
 ·cases b<;>simp
 ·simp
theorem xof_c(w:World)(hE:Env w)(k:Int)(hk:k=0∨k=1)(b:Bool)(n:Int)(t x:ByteArray)(ht:t.size≤1048576)(hx:x.size≤1048576)(ao:Option Addr)(cap:Nat)(l:List V)(ha:LA w 1048576 (.slice ao l.length cap) l)(hm:mayV (.mk k b n t x l)=true):
 Calls Tryz.prog 81 #[.int .i64 0,agg6 k b n t x (.slice ao l.length cap)] w fun e w'=>e=.returned (.tuple #[.int .i64 (ofC k b),.int .i64 0])∧Below w.heap.size w w':=by
 have hq:=Blk.new w #[.int .i64 k,.bool b,.int .i64 n,.string t,.string x,.slice ao l.length cap] 38
 have hal:Below w.heap.size w (w.alloc (.cells #[.int .i64 k,.bool b,.int .i64 n,.string t,.string x,.slice ao l.length cap] 38)):=(Below.refl _ _).alloc (Nat.le_refl _) _
 have cV:=check_any 1048576 (by omega) _ (hE.below hal) k b n t x _ l (ha.stay hal) ht hx
 rw[hm]at cV
 unfold agg6 at cV ⊢
 have y0:=hq.cell 0 rfl
 have y1:=hq.cell 1 rfl
 have y2:=hq.cell 2 rfl
 have y3:=hq.cell 3 rfl
 have y4:=hq.cell 4 rfl
 have y5:=hq.cell 5 rfl
 replace hq:=Hd hq
 replace hal:=Hd hal
 replace cV:=Hd cV
 replace hm:=Hd hm
 replace ha:=Hd ha
 go_enter Tryz.func81,Tryz.ntmps81
 go_wp2_with fail
 refine cV.out.mono ?_
 rintro e w2 ⟨rfl,hb2⟩
 have hq2:Blk w2 w.heap.size _ _:=(hb2.block _ hq.out.lt).trans hq.out
 clear y0 y1 y2 y3 y4 y5
 have y0:=hq2.cell 0 rfl
 have y1:=hq2.cell 1 rfl
 have hB:=Hd (hal.out.trans (hb2.mono hal.out.size))
 have cT:=Hd (xtruth_b w2 b)
 clear hq hq2 hal hb2 cV
 rcases hk with rfl|rfl
 ·go_wp2
  go_ret2
  exact⟨rfl,hB.out⟩
 ·go_wp2_with fail
  refine cT.out.mono ?_
  rintro e w3 ⟨rfl,rfl⟩
  clear cT
  go_wp2
  go_ret2
  exact⟨rfl,hB.out⟩
end Go.Proofs.YtcaeipdgbaligaaGreatDoor.ex
set_option linter.unusedSimpArgs false
set_option linter.unusedVariables false
namespace Go.Proofs.YtcaeipdgbaligaaGreatDoor.kit
open Go
section
variable{P:Program}{ops:Array Oper}{Q:Exit→Act→World→Prop}{md:Region.Mode}{S:World→Prop}{L:List Nat}
def young(L:List Nat)(listed:Array Bool):Bool:=L.all fun l=>listed.getD l true==false
def waits(md:Region.Mode)(ops:Array Oper)(L:List Nat)(i:Nat):Bool:=
 L.all fun l=>l != i&&match ops[l]? with|some o=>o.after.any (fun e=>Region.binds md e&&e.on==i)|none=>false
def wpAnyL(P:Program)(md:Region.Mode)(ops:Array Oper)(Q:Exit→Act→World→Prop)(S:World→Prop)(L:List Nat):Nat→Array Bool→Act→World→Prop
 |0,listed,a,w=>Region.ready md ops listed=[]∧Q .normal a w
 |fuel+1,listed,a,w=>
  (Region.ready md ops listed=[]→Q .normal a w) ∧
  ∀i∈Region.ready md ops listed,wpOp P ops Q i (fun a' w'=>(young L (listed.setIfInBounds i true)=true→S w')∧wpAnyL P md ops Q S L fuel (listed.setIfInBounds i true) a' w') a w
theorem wpAny_of_late:∀(fuel:Nat) (listed:Array Bool) (a:Act) (w:World),wpAnyL P md ops Q S L fuel listed a w→wpAny P md ops Q fuel listed a w
 |0,_,_,_,h=>h
 |fuel+1,_,_,_,h=>⟨h.1,fun i hi=>wpOp_mono (fun a' w' h'=>wpAny_of_late fuel _ a' w' h'.2) (h.2 i hi)⟩
theorem young_set{listed:Array Bool}{j:Nat}(h:young L listed=true)(hj:∀l∈L,l≠j):young L (listed.setIfInBounds j true)=true:=by
 unfold young at *
 rw[List.all_eq_true]at *
 intro l hl
 have:=h l hl
 rwa [getD_set_ne true (fun e=>hj l hl e.symm)]
theorem wpAnyL_first{i:Nat}{oi:Oper}{v:Value}(hi:ops[i]? = some oi)(hsel:∀(j:Nat) (o:Oper) cs b,ops[j]? = some o→o.op≠.select cs b)
 (hQ:∀c a w,Q (.panic c) (a.put oi.dst v) w→Q (.panic c) a w)(hwt:waits md ops L i=true):
 ∀(fuel:Nat) (listed:Array Bool) (a:Act) (w:World),
  (∀j oj,ops[j]? = some oj→j≠i→listed.getD j true=false→(∀e∈oj.after,Region.binds md e=true→e.on≠i)→oi.apart ops oj=true) →
  i∈Region.ready md ops listed→YieldsIf P ops S oi v a→young L listed=true→S w →
  wpAnyL P md ops Q S L fuel (listed.setIfInBounds i true) (a.put oi.dst v) w→wpAnyL P md ops Q S L (fuel+1) listed a w:=by
 intro fuel
 have hLi:∀l∈L,l≠i:=by
  intro l hl
  have:=List.all_eq_true.1 hwt l hl
  simp only[Bool.and_eq_true,bne_iff_ne]at this
  exact this.1
 induction fuel with
 | zero =>
  intro listed a w _ hr hy hyo hS H
  refine⟨fun h=>(by rw[h]at hr;cases hr),fun j hj=>?_⟩
  by_cases hji:j=i
  ·subst hji;exact hy.wpOp hi hS ⟨fun _=>hS,H⟩
  ·have:=ready_mono hj hji
   rw[H.1]at this
   cases this
 | succ fuel ih =>
  intro listed a w hfree hr hy hyo hS H
  refine⟨fun h=>(by rw[h]at hr;cases hr),fun j hj=>?_⟩
  by_cases hji:j=i
  ·subst hji;exact hy.wpOp hi hS ⟨fun _=>hS,H⟩
  ·have h1:=H.2 j (ready_mono hj hji)
   obtain⟨hjun,oj,hoj,hall⟩:=mem_ready.1 hj
   have hnot:∀e∈oj.after,Region.binds md e=true→e.on≠i:=fun e he hb heq=>by
    have h1:=hall e he hb
    have h0:=(mem_ready.1 hr).1
    rw[heq]at h1
    rcases Nat.lt_or_ge i listed.size with h'|h'
    ·simp[h']at h0 h1;rw[h0]at h1;cases h1
    ·simp[Array.getElem?_eq_none h']at h1
   have hLj:∀l∈L,l≠j:=by
    intro l hl e
    subst e
    have:=List.all_eq_true.1 hwt l hl
    rw[hoj]at this
    simp only[Bool.and_eq_true,Array.any_eq_true]at this
    obtain⟨_,k,hk,hb,hon⟩:=this
    exact hnot _ (Array.getElem_mem hk) hb (by simpa using hon)
   have h2:=wpOp_putIf hoj (hfree j oj hoj hji hjun hnot) (fun cs b=>hsel i oi cs b hi) (fun cs b=>hsel j oj cs b hoj) hQ hy h1
   have hfree':∀k ok,ops[k]? = some ok→k≠i→(listed.setIfInBounds j true).getD k true=false →
    (∀e∈ok.after,Region.binds md e=true→e.on≠i)→oi.apart ops ok=true:=fun k ok hk hki hun hno=>by
    refine hfree k ok hk hki ?_ hno
    by_cases hjk:j=k
    ·subst hjk;exact hjun
    ·rw[getD_set_ne true hjk]at hun;exact hun
   refine wpOp_mono (fun a' w' h3=>?_) h2
   have hS':=h3.2.1 (young_set (young_set hyo hLi) hLj)
   refine⟨fun _=>hS',ih (listed.setIfInBounds j true) a' w' hfree' (ready_mono hr (Ne.symm hji)) h3.1 (young_set hyo hLj) hS' ?_⟩
   rw[Array.setIfInBounds_comm _ _ hji]
   exact h3.2.2
theorem wpAnyL_take{i:Nat}{oi:Oper}{v:Value}{fuel:Nat}{listed:Array Bool}{a:Act}{w:World}(hi:ops[i]? = some oi)
 (hs:Region.noSelect ops=true)(hf:Region.free md ops listed i=true)(hr:(Region.ready md ops listed).contains i=true)(hwt:waits md ops L i=true)(hyo:young L listed=true)
 (hQ:∀c a w,Q (.panic c) (a.put oi.dst v) w→Q (.panic c) a w)(hy:YieldsIf P ops S oi v a)(hS:S w)
 (h:wpAnyL P md ops Q S L fuel (listed.setIfInBounds i true) (a.put oi.dst v) w):wpAnyL P md ops Q S L (fuel+1) listed a w:=
 wpAnyL_first hi (Region.noSelect_spec hs) hQ hwt fuel listed a w (Region.free_spec hi hf) (by simpa using hr) hy hyo hS h
theorem tlH(i:Nat)(v:Value){oi:Oper}{fuel:Nat}{listed:Array Bool}{a a2:Act}{w:World}(hi:ops[i]? = some oi)(hy:∀w,S w→(execOp a.eval oi).run P w=.ok (.value v) w)(hS:S w)(h:wpAnyL P md ops Q S L fuel (listed.setIfInBounds i true) a2 w)
 (hs:Region.noSelect ops=true:=by kernel_rfl)(hf:Region.free md ops listed i=true:=by kernel_rfl)(hr:(Region.ready md ops listed).contains i=true:=by kernel_rfl)(hwt:waits md ops L i=true:=by kernel_rfl)(hyo:young L listed=true:=by kernel_rfl)
 (hQ:∀c a w,Q (.panic c) (a.put oi.dst v) w→Q (.panic c) a w:=by exact fun _ _ _ h=>h)(hg:Region.wanted oi (yielded ops a.tmps)=true:=by kernel_rfl)
 (ha:a.put oi.dst v=a2:=by simp only[List.getElem_toArray,List.getElem_cons_succ,List.getElem_cons_zero,Act.put,List.setIfInBounds_toArray,List.set_cons_zero,List.set_cons_succ];rfl):
 wpAnyL P md ops Q S L (fuel+1) listed a w:=wpAnyL_take (i:=i) hi hs hf hr hwt hyo hQ (.inl ⟨hg,hy⟩) hS (ha ▸ h)
abbrev wpTl(_:List Nat)(P:Program)(md:Region.Mode)(ops:Array Oper)(Q:Exit→Act→World→Prop)(S:World→Prop)(L:List Nat)(fuel:Nat)(listed:Array Bool)(a:Act)(w:World):Prop:=wpAnyL P md ops Q S L fuel listed a w
theorem tlS(M:List Nat){fuel:Nat}{listed:Array Bool}{a:Act}{w:World}(h:wpTl M P md ops Q S L fuel listed a w):wpAnyL P md ops Q S L fuel listed a w:=h
theorem tlC(v:Value){i:Nat}{M:List Nat}{oi:Oper}{fuel:Nat}{listed:Array Bool}{a a2:Act}{w:World}(hi:ops[i]? = some oi)(hy:∀w,S w→(execOp a.eval oi).run P w=.ok (.value v) w)(hS:S w)(h:wpTl M P md ops Q S L fuel (listed.setIfInBounds i true) a2 w)
 (hs:Region.noSelect ops=true:=by kernel_rfl)(hf:Region.free md ops listed i=true:=by kernel_rfl)(hr:(Region.ready md ops listed).contains i=true:=by kernel_rfl)(hwt:waits md ops L i=true:=by kernel_rfl)(hyo:young L listed=true:=by kernel_rfl)
 (hQ:∀c a w,Q (.panic c) (a.put oi.dst v) w→Q (.panic c) a w:=by exact fun _ _ _ h=>h)(hg:Region.wanted oi (yielded ops a.tmps)=true:=by kernel_rfl)
 (ha:a.put oi.dst v=a2:=by simp only[List.getElem_toArray,List.getElem_cons_succ,List.getElem_cons_zero,Act.put,List.setIfInBounds_toArray,List.set_cons_zero,List.set_cons_succ];rfl):
 wpTl (i::M) P md ops Q S L (fuel+1) listed a w:=tlH i v hi hy hS h hs hf hr hwt hyo hQ hg ha
theorem wpAnyL_done{listed:Array Bool}{a:Act}{w:World}(hr:Region.ready md ops listed=[])(h:Q .normal a w):
 ∀fuel,wpAnyL P md ops Q S L fuel listed a w
 |0=>⟨hr,h⟩
 |_+1=>⟨fun _=>h,by rw[hr];simp⟩
theorem wpAnyL_ready{i:Nat}{o:Oper}{fuel:Nat}{listed:Array Bool}{a:Act}{w:World}(hr:Region.ready md ops listed=[i])(ho:ops[i]? = some o)
 (h:∀K':Act→World→Prop,Shut (∀a w,S w→(S w→wpAnyL P md ops Q S L fuel (listed.setIfInBounds i true) a w)→K' a w)→if Region.wanted o (yielded ops a.tmps)=true then Oper.wp P o a w K' Q else K' (a.put o.dst undef) w):
 wpAnyL P md ops Q S L (fuel+1) listed a w:=by
 refine⟨fun h0=>(by rw[hr]at h0;cases h0),fun j hj=>?_⟩
 rw[hr,List.mem_singleton]at hj
 subst hj
 exact wpOp_step ho (fun K' hK=>h K' (fun a w hS hW=>hK a w ⟨fun _=>hS,hW hS⟩))
theorem wpAnyL_late{i:Nat}{o:Oper}{fuel:Nat}{listed:Array Bool}{a:Act}{w:World}(hr:Region.ready md ops listed=[i])(ho:ops[i]? = some o)(hyo:young L (listed.setIfInBounds i true)=false)
 (h:∀K':Act→World→Prop,Shut (∀a w,wpAnyL P md ops Q S L fuel (listed.setIfInBounds i true) a w→K' a w)→if Region.wanted o (yielded ops a.tmps)=true then Oper.wp P o a w K' Q else K' (a.put o.dst undef) w):
 wpAnyL P md ops Q S L (fuel+1) listed a w:=by
 refine⟨fun h0=>(by rw[hr]at h0;cases h0),fun j hj=>?_⟩
 rw[hr,List.mem_singleton]at hj
 subst hj
 exact wpOp_step ho (fun K' hK=>h K' (fun a w hW=>hK a w ⟨(fun h=>absurd (hyo.symm.trans h) Bool.false_ne_true),hW⟩))
theorem wp_region_late{id:Nat}{a:Act}{w:World}(L:List Nat)(hm:P.follows .mixedOrders=true)(hS:S w.drew)
 (h:S w.drew→wpAnyL P .any ops Q S L ops.size (Array.replicate ops.size false) a w.drew):(Code.region id ops true).wp P Q a w:=
 wp_region_any hm (wpAny_of_late _ _ _ _ (h hS))
end
end Go.Proofs.YtcaeipdgbaligaaGreatDoor.kit
