/- Texts XFuns, RegMore, one behind the other. -/
import Derived.Test.YtcaeipdgbaligaaGreatDoorXOwnP
set_option linter.unusedSimpArgs false
set_option linter.unusedVariables false
set_option maxHeartbeats 4000000
namespace Go.Proofs.YtcaeipdgbaligaaGreatDoor.ex
open Go.ChangeShapes Go.WideShapes Go.ChangeAt Go.RowKit kit dec val tab
set_option maxRecDepth 100000
def IsFn(u:Value):Prop:=∃f x y,u=.func f x y
theorem one_w(w:World)(v:Value)(hv:IsFn v):Calls Tryz.prog 84 #[v] w fun e w'=>∃u,e=.returned u∧IsFn u∧Below w.heap.size w w':=by
 obtain⟨f,x,y,rfl⟩:=hv
 have hal:Below w.heap.size w (w.alloc (.cells #[.func f x y] 143)):=(Below.refl _ _).alloc (Nat.le_refl _) _
 replace hal:=Hd hal
 go_enter Tryz.func84,Tryz.ntmps84
 go_wp2
 go_ret
 exact⟨_,rfl,⟨_,_,_,rfl⟩,hal.out⟩
theorem isKind_w(w:World)(k:Int):Calls Tryz.prog 88 #[.int .i64 k] w fun e w'=>∃u,e=.returned u∧IsFn u∧Below w.heap.size w w':=by
 have hal:Below w.heap.size w (w.alloc (.cells #[.int .i64 k] 3)):=(Below.refl _ _).alloc (Nat.le_refl _) _
 replace hal:=Hd hal
 go_enter Tryz.func88,Tryz.ntmps88
 go_wp2
 go_ret
 exact⟨_,rfl,⟨_,_,_,rfl⟩,hal.out⟩
theorem about_w(w:World)(k:Int)(s:ByteArray):Calls Tryz.prog 93 #[.int .i64 k,.string s] w fun e w'=>∃u,e=.returned u∧IsFn u∧Below w.heap.size w w':=by
 have hal:Below w.heap.size w ((w.alloc (.cells #[.int .i64 k] 3)).alloc (.cells #[.string s] 9)):=((Below.refl _ _).alloc (Nat.le_refl _) _).alloc (by rw[World.size_alloc];omega) _
 replace hal:=Hd hal
 go_enter Tryz.func93,Tryz.ntmps93
 go_wp2
 go_ret
 exact⟨_,rfl,⟨_,_,_,rfl⟩,hal.out⟩
def ent(a b:Int)(u:Value):Value:=.agg #[.int .i64 a,.int .i64 b,u]
def zF:Value:=.agg #[.int .i64 0,.int .i64 0,.nilFunc]
def FunsOK(s:Bool)(f:List UInt8→Option Value):Prop:=∀t:ByteArray,∃u,(f t.data.toList).getD zF=ent (tcall s t).1 (tcall s t).2.1 u∧(f t.data.toList).isSome=(tcall s t).2.2∧u.oneCell'=true
theorem data_eq(t n:ByteArray):(t.data.toList=n.data.toList)↔t=n:=by
 constructor
 ·intro h
  obtain⟨⟨a⟩⟩:=t
  obtain⟨⟨b⟩⟩:=n
  have h2:a=b:=h
  rw[h2]
 ·intro h;rw[h]
def fS(u0 u1 u2 u3 u4 u5 u6 u7:Value):List UInt8→Option Value:=
 updV (updV (updV (updV (updV (updV (updV (updV (fun _=>none) n_coalesce.data.toList (ent 1 4096 u0)) n_abs.data.toList (ent 1 1 u1)) n_text.data.toList (ent 1 1 u2)) n_if.data.toList (ent 3 3 u3)) n_isiri.data.toList (ent 1 1 u4)) n_isblank.data.toList (ent 1 1 u5)) n_isliteral.data.toList (ent 1 1 u6)) n_length.data.toList (ent 1 1 u7)
def fC(u0 u1 u2 u3 u4 u5 u6 u7 u8:Value):List UInt8→Option Value:=
 updV (updV (updV (updV (updV (updV (updV (updV (updV (fun _=>none) n_size.data.toList (ent 1 1 u0)) n_head.data.toList (ent 1 1 u1)) n_last.data.toList (ent 1 1 u2)) n_coalesce.data.toList (ent 1 4096 u3)) n_abs.data.toList (ent 1 1 u4)) n_text.data.toList (ent 1 1 u5)) n_labels.data.toList (ent 1 1 u6)) n_type.data.toList (ent 1 1 u7)) n_id.data.toList (ent 1 1 u8)
theorem funs_S(u0 u1 u2 u3 u4 u5 u6 u7:Value)(hu:[u0,u1,u2,u3,u4,u5,u6,u7].all Value.oneCell'=true):FunsOK true (fS u0 u1 u2 u3 u4 u5 u6 u7):=by
 simp only[List.all_cons,List.all_nil,Bool.and_true,Bool.and_eq_true]at hu
 intro t
 by_cases c0:t=n_coalesce
 ·subst c0;exact⟨u0,rfl,rfl,hu.1⟩
 by_cases c1:t=n_abs
 ·subst c1;exact⟨u1,rfl,rfl,hu.2.1⟩
 by_cases c2:t=n_text
 ·subst c2;exact⟨u2,rfl,rfl,hu.2.2.1⟩
 by_cases c3:t=n_if
 ·subst c3;exact⟨u3,rfl,rfl,hu.2.2.2.1⟩
 by_cases c4:t=n_isiri
 ·subst c4;exact⟨u4,rfl,rfl,hu.2.2.2.2.1⟩
 by_cases c5:t=n_isblank
 ·subst c5;exact⟨u5,rfl,rfl,hu.2.2.2.2.2.1⟩
 by_cases c6:t=n_isliteral
 ·subst c6;exact⟨u6,rfl,rfl,hu.2.2.2.2.2.2.1⟩
 by_cases c7:t=n_length
 ·subst c7;exact⟨u7,rfl,rfl,hu.2.2.2.2.2.2.2⟩
 have e:fS u0 u1 u2 u3 u4 u5 u6 u7 t.data.toList=none:=by
  unfold fS updV
  simp only[data_eq,c0,c1,c2,c3,c4,c5,c6,c7,if_false]
 have e2:tcall true t=(0,0,false):=by
  unfold tcall
  simp only[c0,c1,c2,c3,c4,c5,c6,c7,if_false,if_true,or_self]
 rw[e,e2]
 exact⟨.nilFunc,rfl,rfl,rfl⟩
theorem funs_C(u0 u1 u2 u3 u4 u5 u6 u7 u8:Value)(hu:[u0,u1,u2,u3,u4,u5,u6,u7,u8].all Value.oneCell'=true):FunsOK false (fC u0 u1 u2 u3 u4 u5 u6 u7 u8):=by
 simp only[List.all_cons,List.all_nil,Bool.and_true,Bool.and_eq_true]at hu
 intro t
 by_cases c0:t=n_size
 ·subst c0;exact⟨u0,rfl,rfl,hu.1⟩
 by_cases c1:t=n_head
 ·subst c1;exact⟨u1,rfl,rfl,hu.2.1⟩
 by_cases c2:t=n_last
 ·subst c2;exact⟨u2,rfl,rfl,hu.2.2.1⟩
 by_cases c3:t=n_coalesce
 ·subst c3;exact⟨u3,rfl,rfl,hu.2.2.2.1⟩
 by_cases c4:t=n_abs
 ·subst c4;exact⟨u4,rfl,rfl,hu.2.2.2.2.1⟩
 by_cases c5:t=n_text
 ·subst c5;exact⟨u5,rfl,rfl,hu.2.2.2.2.2.1⟩
 by_cases c6:t=n_labels
 ·subst c6;exact⟨u6,rfl,rfl,hu.2.2.2.2.2.2.1⟩
 by_cases c7:t=n_type
 ·subst c7;exact⟨u7,rfl,rfl,hu.2.2.2.2.2.2.2.1⟩
 by_cases c8:t=n_id
 ·subst c8;exact⟨u8,rfl,rfl,hu.2.2.2.2.2.2.2.2⟩
 have e:fC u0 u1 u2 u3 u4 u5 u6 u7 u8 t.data.toList=none:=by
  unfold fC updV
  simp only[data_eq,c0,c1,c2,c3,c4,c5,c6,c7,c8,if_false]
 have e2:tcall false t=(0,0,false):=by
  unfold tcall
  simp only[c0,c1,c2,c3,c4,c5,c6,c7,c8,if_false,or_self,Bool.false_eq_true]
 rw[e,e2]
 exact⟨.nilFunc,rfl,rfl,rfl⟩
def FunsP(s:Bool)(w:World)(e:Ending)(w':World):Prop:=∃mb n f,e=.returned (.map (some mb))∧Below w.heap.size w w'∧MapV Tryz.prog 9 zF w' mb n f∧FunsOK s f
theorem functions_S(w:World):Calls Tryz.prog 59 #[.int .i64 1] w (FunsP true w):=by
 have hmm:(Instr.makeMap 115 none).run Tryz.prog w=.ok (.map (some w.heap.size)) (w.alloc (.map #[] 0)):=rfl
 have hB:Hid (Below w.heap.size w (w.alloc (.map #[] 0))):=Hd ((Below.refl _ _).alloc (Nat.le_refl _) _)
 have hM:Hid (MapV Tryz.prog 9 zF (w.alloc (.map #[] 0)) w.heap.size 0 (fun _=>none)):=Hd (MapV.made w)
 go_enter Tryz.func59,Tryz.ntmps59
 go_wp2_with (refine wpList_mapV_ins Tryz.underlying115 Tryz.underlying9 _ rfl _ _ _ rfl w.heap.size 0 _ rfl hM.out (by decide) _ (by decide) _ rfl rfl ?_)
 intro w' hM' hg'
 replace hB:=Hd (hB.out.grown hg' hB.out.size (fun k e=>by cases e;exact Nat.le_refl _))
 clear hg' hM
 replace hM:=Hd hM'
 clear hM'
 go_wp2_with fail
 refine(one_w _ _ ⟨_,_,_,rfl⟩).mono ?_
 rintro e w' ⟨_,rfl,⟨f1,a1,b1,rfl⟩,hb'⟩
 replace hM:=Hd (hM.out.same (hb'.block _ hM.out.lt));replace hB:=Hd (hB.out.trans (hb'.mono hB.out.size));clear hb'
 go_wp2_with (refine wpList_mapV_ins Tryz.underlying115 Tryz.underlying9 _ rfl _ _ _ rfl w.heap.size 1 _ rfl hM.out (by decide) _ (by decide) _ rfl rfl ?_)
 intro w' hM' hg'
 replace hB:=Hd (hB.out.grown hg' hB.out.size (fun k e=>by cases e;exact Nat.le_refl _))
 clear hg' hM
 replace hM:=Hd hM'
 clear hM'
 go_wp2_with fail
 refine(one_w _ _ ⟨_,_,_,rfl⟩).mono ?_
 rintro e w' ⟨_,rfl,⟨f2,a2,b2,rfl⟩,hb'⟩
 replace hM:=Hd (hM.out.same (hb'.block _ hM.out.lt));replace hB:=Hd (hB.out.trans (hb'.mono hB.out.size));clear hb'
 go_wp2_with (refine wpList_mapV_ins Tryz.underlying115 Tryz.underlying9 _ rfl _ _ _ rfl w.heap.size 2 _ rfl hM.out (by decide) _ (by decide) _ rfl rfl ?_)
 intro w' hM' hg'
 replace hB:=Hd (hB.out.grown hg' hB.out.size (fun k e=>by cases e;exact Nat.le_refl _))
 clear hg' hM
 replace hM:=Hd hM'
 clear hM'
 go_wp2_with (refine wpList_mapV_ins Tryz.underlying115 Tryz.underlying9 _ rfl _ _ _ rfl w.heap.size 3 _ rfl hM.out (by decide) _ (by decide) _ rfl rfl ?_)
 intro w' hM' hg'
 replace hB:=Hd (hB.out.grown hg' hB.out.size (fun k e=>by cases e;exact Nat.le_refl _))
 clear hg' hM
 replace hM:=Hd hM'
 clear hM'
 go_wp2_with fail
 refine(isKind_w _ _).mono ?_
 rintro e w' ⟨_,rfl,⟨q4,c4,d4,rfl⟩,hb'⟩
 replace hM:=Hd (hM.out.same (hb'.block _ hM.out.lt));replace hB:=Hd (hB.out.trans (hb'.mono hB.out.size));clear hb'
 go_wp2_with fail
 refine(one_w _ _ ⟨_,_,_,rfl⟩).mono ?_
 rintro e w' ⟨_,rfl,⟨f4,a4,b4,rfl⟩,hb'⟩
 replace hM:=Hd (hM.out.same (hb'.block _ hM.out.lt));replace hB:=Hd (hB.out.trans (hb'.mono hB.out.size));clear hb'
 go_wp2_with (refine wpList_mapV_ins Tryz.underlying115 Tryz.underlying9 _ rfl _ _ _ rfl w.heap.size 4 _ rfl hM.out (by decide) _ (by decide) _ rfl rfl ?_)
 intro w' hM' hg'
 replace hB:=Hd (hB.out.grown hg' hB.out.size (fun k e=>by cases e;exact Nat.le_refl _))
 clear hg' hM
 replace hM:=Hd hM'
 clear hM'
 go_wp2_with fail
 refine(isKind_w _ _).mono ?_
 rintro e w' ⟨_,rfl,⟨q5,c5,d5,rfl⟩,hb'⟩
 replace hM:=Hd (hM.out.same (hb'.block _ hM.out.lt));replace hB:=Hd (hB.out.trans (hb'.mono hB.out.size));clear hb'
 go_wp2_with fail
 refine(one_w _ _ ⟨_,_,_,rfl⟩).mono ?_
 rintro e w' ⟨_,rfl,⟨f5,a5,b5,rfl⟩,hb'⟩
 replace hM:=Hd (hM.out.same (hb'.block _ hM.out.lt));replace hB:=Hd (hB.out.trans (hb'.mono hB.out.size));clear hb'
 go_wp2_with (refine wpList_mapV_ins Tryz.underlying115 Tryz.underlying9 _ rfl _ _ _ rfl w.heap.size 5 _ rfl hM.out (by decide) _ (by decide) _ rfl rfl ?_)
 intro w' hM' hg'
 replace hB:=Hd (hB.out.grown hg' hB.out.size (fun k e=>by cases e;exact Nat.le_refl _))
 clear hg' hM
 replace hM:=Hd hM'
 clear hM'
 go_wp2_with fail
 refine(one_w _ _ ⟨_,_,_,rfl⟩).mono ?_
 rintro e w' ⟨_,rfl,⟨f6,a6,b6,rfl⟩,hb'⟩
 replace hM:=Hd (hM.out.same (hb'.block _ hM.out.lt));replace hB:=Hd (hB.out.trans (hb'.mono hB.out.size));clear hb'
 go_wp2_with (refine wpList_mapV_ins Tryz.underlying115 Tryz.underlying9 _ rfl _ _ _ rfl w.heap.size 6 _ rfl hM.out (by decide) _ (by decide) _ rfl rfl ?_)
 intro w' hM' hg'
 replace hB:=Hd (hB.out.grown hg' hB.out.size (fun k e=>by cases e;exact Nat.le_refl _))
 clear hg' hM
 replace hM:=Hd hM'
 clear hM'
 go_wp2_with fail
 refine(one_w _ _ ⟨_,_,_,rfl⟩).mono ?_
 rintro e w' ⟨_,rfl,⟨f7,a7,b7,rfl⟩,hb'⟩
 replace hM:=Hd (hM.out.same (hb'.block _ hM.out.lt));replace hB:=Hd (hB.out.trans (hb'.mono hB.out.size));clear hb'
 go_wp2_with (refine wpList_mapV_ins Tryz.underlying115 Tryz.underlying9 _ rfl _ _ _ rfl w.heap.size 7 _ rfl hM.out (by decide) _ (by decide) _ rfl rfl ?_)
 intro w' hM' hg'
 replace hB:=Hd (hB.out.grown hg' hB.out.size (fun k e=>by cases e;exact Nat.le_refl _))
 clear hg' hM
 replace hM:=Hd hM'
 clear hM'
 go_wp2
 go_ret
 exact⟨_,_,_,rfl,hB.out,hM.out,funs_S _ _ _ _ _ _ _ _ rfl⟩
theorem functions_C(w:World):Calls Tryz.prog 59 #[.int .i64 0] w (FunsP false w):=by
 have hmm:(Instr.makeMap 115 none).run Tryz.prog w=.ok (.map (some w.heap.size)) (w.alloc (.map #[] 0)):=rfl
 have hB:Hid (Below w.heap.size w (w.alloc (.map #[] 0))):=Hd ((Below.refl _ _).alloc (Nat.le_refl _) _)
 have hM:Hid (MapV Tryz.prog 9 zF (w.alloc (.map #[] 0)) w.heap.size 0 (fun _=>none)):=Hd (MapV.made w)
 go_enter Tryz.func59,Tryz.ntmps59
 go_wp2_with fail
 refine(one_w _ _ ⟨_,_,_,rfl⟩).mono ?_
 rintro e w' ⟨_,rfl,⟨f0,a0,b0,rfl⟩,hb'⟩
 replace hM:=Hd (hM.out.same (hb'.block _ hM.out.lt));replace hB:=Hd (hB.out.trans (hb'.mono hB.out.size));clear hb'
 go_wp2_with (refine wpList_mapV_ins Tryz.underlying115 Tryz.underlying9 _ rfl _ _ _ rfl w.heap.size 0 _ rfl hM.out (by decide) _ (by decide) _ rfl rfl ?_)
 intro w' hM' hg'
 replace hB:=Hd (hB.out.grown hg' hB.out.size (fun k e=>by cases e;exact Nat.le_refl _))
 clear hg' hM
 replace hM:=Hd hM'
 clear hM'
 go_wp2_with fail
 refine(one_w _ _ ⟨_,_,_,rfl⟩).mono ?_
 rintro e w' ⟨_,rfl,⟨f1,a1,b1,rfl⟩,hb'⟩
 replace hM:=Hd (hM.out.same (hb'.block _ hM.out.lt));replace hB:=Hd (hB.out.trans (hb'.mono hB.out.size));clear hb'
 go_wp2_with (refine wpList_mapV_ins Tryz.underlying115 Tryz.underlying9 _ rfl _ _ _ rfl w.heap.size 1 _ rfl hM.out (by decide) _ (by decide) _ rfl rfl ?_)
 intro w' hM' hg'
 replace hB:=Hd (hB.out.grown hg' hB.out.size (fun k e=>by cases e;exact Nat.le_refl _))
 clear hg' hM
 replace hM:=Hd hM'
 clear hM'
 go_wp2_with fail
 refine(one_w _ _ ⟨_,_,_,rfl⟩).mono ?_
 rintro e w' ⟨_,rfl,⟨f2,a2,b2,rfl⟩,hb'⟩
 replace hM:=Hd (hM.out.same (hb'.block _ hM.out.lt));replace hB:=Hd (hB.out.trans (hb'.mono hB.out.size));clear hb'
 go_wp2_with (refine wpList_mapV_ins Tryz.underlying115 Tryz.underlying9 _ rfl _ _ _ rfl w.heap.size 2 _ rfl hM.out (by decide) _ (by decide) _ rfl rfl ?_)
 intro w' hM' hg'
 replace hB:=Hd (hB.out.grown hg' hB.out.size (fun k e=>by cases e;exact Nat.le_refl _))
 clear hg' hM
 replace hM:=Hd hM'
 clear hM'
 go_wp2_with (refine wpList_mapV_ins Tryz.underlying115 Tryz.underlying9 _ rfl _ _ _ rfl w.heap.size 3 _ rfl hM.out (by decide) _ (by decide) _ rfl rfl ?_)
 intro w' hM' hg'
 replace hB:=Hd (hB.out.grown hg' hB.out.size (fun k e=>by cases e;exact Nat.le_refl _))
 clear hg' hM
 replace hM:=Hd hM'
 clear hM'
 go_wp2_with fail
 refine(one_w _ _ ⟨_,_,_,rfl⟩).mono ?_
 rintro e w' ⟨_,rfl,⟨f4,a4,b4,rfl⟩,hb'⟩
 replace hM:=Hd (hM.out.same (hb'.block _ hM.out.lt));replace hB:=Hd (hB.out.trans (hb'.mono hB.out.size));clear hb'
 go_wp2_with (refine wpList_mapV_ins Tryz.underlying115 Tryz.underlying9 _ rfl _ _ _ rfl w.heap.size 4 _ rfl hM.out (by decide) _ (by decide) _ rfl rfl ?_)
 intro w' hM' hg'
 replace hB:=Hd (hB.out.grown hg' hB.out.size (fun k e=>by cases e;exact Nat.le_refl _))
 clear hg' hM
 replace hM:=Hd hM'
 clear hM'
 go_wp2_with fail
 refine(one_w _ _ ⟨_,_,_,rfl⟩).mono ?_
 rintro e w' ⟨_,rfl,⟨f5,a5,b5,rfl⟩,hb'⟩
 replace hM:=Hd (hM.out.same (hb'.block _ hM.out.lt));replace hB:=Hd (hB.out.trans (hb'.mono hB.out.size));clear hb'
 go_wp2_with (refine wpList_mapV_ins Tryz.underlying115 Tryz.underlying9 _ rfl _ _ _ rfl w.heap.size 5 _ rfl hM.out (by decide) _ (by decide) _ rfl rfl ?_)
 intro w' hM' hg'
 replace hB:=Hd (hB.out.grown hg' hB.out.size (fun k e=>by cases e;exact Nat.le_refl _))
 clear hg' hM
 replace hM:=Hd hM'
 clear hM'
 go_wp2_with fail
 refine(about_w _ _ _).mono ?_
 rintro e w' ⟨_,rfl,⟨q6,c6,d6,rfl⟩,hb'⟩
 replace hM:=Hd (hM.out.same (hb'.block _ hM.out.lt));replace hB:=Hd (hB.out.trans (hb'.mono hB.out.size));clear hb'
 go_wp2_with fail
 refine(one_w _ _ ⟨_,_,_,rfl⟩).mono ?_
 rintro e w' ⟨_,rfl,⟨f6,a6,b6,rfl⟩,hb'⟩
 replace hM:=Hd (hM.out.same (hb'.block _ hM.out.lt));replace hB:=Hd (hB.out.trans (hb'.mono hB.out.size));clear hb'
 go_wp2_with (refine wpList_mapV_ins Tryz.underlying115 Tryz.underlying9 _ rfl _ _ _ rfl w.heap.size 6 _ rfl hM.out (by decide) _ (by decide) _ rfl rfl ?_)
 intro w' hM' hg'
 replace hB:=Hd (hB.out.grown hg' hB.out.size (fun k e=>by cases e;exact Nat.le_refl _))
 clear hg' hM
 replace hM:=Hd hM'
 clear hM'
 go_wp2_with fail
 refine(about_w _ _ _).mono ?_
 rintro e w' ⟨_,rfl,⟨q7,c7,d7,rfl⟩,hb'⟩
 replace hM:=Hd (hM.out.same (hb'.block _ hM.out.lt));replace hB:=Hd (hB.out.trans (hb'.mono hB.out.size));clear hb'
 go_wp2_with fail
 refine(one_w _ _ ⟨_,_,_,rfl⟩).mono ?_
 rintro e w' ⟨_,rfl,⟨f7,a7,b7,rfl⟩,hb'⟩
 replace hM:=Hd (hM.out.same (hb'.block _ hM.out.lt));replace hB:=Hd (hB.out.trans (hb'.mono hB.out.size));clear hb'
 go_wp2_with (refine wpList_mapV_ins Tryz.underlying115 Tryz.underlying9 _ rfl _ _ _ rfl w.heap.size 7 _ rfl hM.out (by decide) _ (by decide) _ rfl rfl ?_)
 intro w' hM' hg'
 replace hB:=Hd (hB.out.grown hg' hB.out.size (fun k e=>by cases e;exact Nat.le_refl _))
 clear hg' hM
 replace hM:=Hd hM'
 clear hM'
 go_wp2_with fail
 refine(one_w _ _ ⟨_,_,_,rfl⟩).mono ?_
 rintro e w' ⟨_,rfl,⟨f8,a8,b8,rfl⟩,hb'⟩
 replace hM:=Hd (hM.out.same (hb'.block _ hM.out.lt));replace hB:=Hd (hB.out.trans (hb'.mono hB.out.size));clear hb'
 go_wp2_with (refine wpList_mapV_ins Tryz.underlying115 Tryz.underlying9 _ rfl _ _ _ rfl w.heap.size 8 _ rfl hM.out (by decide) _ (by decide) _ rfl rfl ?_)
 intro w' hM' hg'
 replace hB:=Hd (hB.out.grown hg' hB.out.size (fun k e=>by cases e;exact Nat.le_refl _))
 clear hg' hM
 replace hM:=Hd hM'
 clear hM'
 go_wp2
 go_ret
 exact⟨_,_,_,rfl,hB.out,hM.out,funs_C _ _ _ _ _ _ _ _ _ rfl⟩
end Go.Proofs.YtcaeipdgbaligaaGreatDoor.ex
set_option linter.unusedVariables false
namespace Go.Proofs.YtcaeipdgbaligaaGreatDoor.kit
open Go
theorem wpAnyH_mono{P:Program}{ops:Array Oper}{Q:Exit→Act→World→Prop}{md:Region.Mode}{S S':World→Prop}(hS:∀w,S' w→S w):∀{fuel:Nat} {listed:Array Bool} {a:Act} {w:World},wpAnyH P md ops Q S' fuel listed a w→wpAnyH P md ops Q S fuel listed a w
 |0,_,_,_,h=>h
 |fuel+1,_,_,_,h=>⟨h.1,fun i hi=>wpOp_mono (fun a' w' h'=>⟨hS _ h'.1,wpAnyH_mono hS h'.2⟩) (h.2 i hi)⟩
end Go.Proofs.YtcaeipdgbaligaaGreatDoor.kit
