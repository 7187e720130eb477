/- Texts XPlain, XSafe, one behind the other. -/
import Derived.Test.YtcaeipdgbaligaaGreatDoorXCheck
set_option linter.unusedSimpArgs false
set_option linter.unusedVariables false
set_option maxHeartbeats 8000000
namespace Go.Proofs.YtcaeipdgbaligaaGreatDoor.ex
open Go.ChangeShapes Go.WideShapes Go.ChangeAt Go.RowKit kit dec val tab
set_option maxRecDepth 100000
theorem mayX_of{s:Bool}{x:X}{b:Bool}{k':Nat}(h:CkR s 1 false x 0 b k'):b=mayX s x:=by
 unfold CkR at h
 unfold mayX
 cases b
 ·rcases h.2 rfl with h|h
  ·rw[h];rfl
  ·rw[decide_eq_false (by omega),Bool.and_false]
 ·obtain⟨h1,h2,-⟩:=h.1 rfl
  rw[h1,decide_eq_true (by omega)];rfl
theorem xcheck_any(w:World)(hE:Env w)(lang:Int)(v:Value)(x:X)(hv:XV w 1048576 v x):Calls Tryz.prog 9 #[.int .i64 lang,v] w fun e w'=>e=.returned (.bool (mayX (decide (lang=1)) x))∧Below w.heap.size w w':=by
 have hag:∃cs,v=.agg cs:=by cases hv;exact⟨_,rfl⟩
 obtain⟨cs,rfl⟩:=hag
 have hv0:=hv
 obtain⟨o1,s1,k2,b1,n1,s2,s3,e1,e2,e3,f1,e4,e5,e6,e7,e8,e9,d1,d2,d3,d4,d5,d6,rfl⟩:=hv.form
 unfold c13 at hv0 ⊢
 have hl2:(if lang=1 then(1:Int) else 0)=sI (decide (lang=1)):=by
  by_cases h:lang=1<;>simp[h,sI]
 have cL:=xlang_any (w.alloc (.cells #[.int .i64 o1,.string s1,.int .i64 k2,.bool b1,.int .i64 n1,.string s2,.string s3,.slice e1 e2 e3,.bool f1,.slice e4 e5 e6,.slice e7 e8 e9,.slice d1 d2 d3,.slice d4 d5 d6] 43)) lang
 rw[hl2]at cL
 generalize decide (lang=1)=s at *
 have hb1:Below w.heap.size w ((w.alloc (.cells #[.int .i64 o1,.string s1,.int .i64 k2,.bool b1,.int .i64 n1,.string s2,.string s3,.slice e1 e2 e3,.bool f1,.slice e4 e5 e6,.slice e7 e8 e9,.slice d1 d2 d3,.slice d4 d5 d6] 43)).alloc (.cells #[.int .i64 (sI s),.int .i64 0] 72)):=((Below.refl _ _).alloc (Nat.le_refl _) _).alloc (by rw[World.size_alloc];omega) _
 have hc:=Blk.new (w.alloc (.cells #[.int .i64 o1,.string s1,.int .i64 k2,.bool b1,.int .i64 n1,.string s2,.string s3,.slice e1 e2 e3,.bool f1,.slice e4 e5 e6,.slice e7 e8 e9,.slice d1 d2 d3,.slice d4 d5 d6] 43)) #[.int .i64 (sI s),.int .i64 0] 72
 rw[World.size_alloc]at hc
 have hcall:Calls Tryz.prog 23 #[.pointer (some ⟨w.heap.size+1,0,none⟩),.agg #[.int .i64 o1,.string s1,.int .i64 k2,.bool b1,.int .i64 n1,.string s2,.string s3,.slice e1 e2 e3,.bool f1,.slice e4 e5 e6,.slice e7 e8 e9,.slice d1 d2 d3,.slice d4 d5 d6],.int .i64 1,.bool false] _ (CkP s 1 false x 0 (w.heap.size+1) _):=
  check_all s (SizeOf.sizeOf x+1) x (Nat.lt_succ_self _) w _ hE hb1 _ hv0 (w.heap.size+1) (by omega) 1 0 (by omega) (by omega) false hc
 have hq:=(Blk.new w #[.int .i64 o1,.string s1,.int .i64 k2,.bool b1,.int .i64 n1,.string s2,.string s3,.slice e1 e2 e3,.bool f1,.slice e4 e5 e6,.slice e7 e8 e9,.slice d1 d2 d3,.slice d4 d5 d6] 43).alloc (.cells #[.int .i64 (sI s),.int .i64 0] 72)
 have t0:=hq.cell 0 rfl
 have t1:=hq.cell 1 rfl
 have t2a:=hq.cell 2 rfl
 have t3:=hq.cell 3 rfl
 have t4:=hq.cell 4 rfl
 have t5:=hq.cell 5 rfl
 have t6:=hq.cell 6 rfl
 have t7:=hq.cell 7 rfl
 have t8:=hq.cell 8 rfl
 have t9:=hq.cell 9 rfl
 have t10:=hq.cell 10 rfl
 have t11:=hq.cell 11 rfl
 have t12:=hq.cell 12 rfl
 replace cL:=Hd cL
 replace hcall:=Hd hcall
 replace hb1:=Hd hb1
 replace hl2:=Hd hl2
 replace hv:=Hd hv
 replace hv0:=Hd hv0
 clear hc hq
 go_enter Tryz.func9,Tryz.ntmps9
 go_wp2_with fail
 refine cL.out.mono ?_
 rintro e w2 ⟨rfl,rfl⟩
 clear cL
 go_wp2_with fail
 refine hcall.out.mono ?_
 rintro e w3 ⟨bb,k',rfl,hk,-,hck⟩
 have hbf:=Hd (hb1.out.trans (hk.under w.heap.size hb1.out.size (by simp)))
 have hbb:=Hd (mayX_of hck)
 clear t0 t1 t2a t3 t4 t5 t6 t7 t8 t9 t10 t11 t12
 clear hk hck hcall
 go_wp2
 go_ret
 exact⟨ret_bool hbb.out,hbf.out⟩
theorem plainXs_all:∀l:List X,(plainXs l).1=l.all (fun x=>(plainX x).1)∧(plainXs l).2=l.all (fun x=>(plainX x).2)
 |[]=>by rw[plainXs];exact⟨rfl,rfl⟩
 |x::l=>by
  obtain⟨h1,h2⟩:=plainXs_all l
  rw[plainXs,List.all_cons,List.all_cons,h1,h2]
  exact⟨rfl,rfl⟩
def PlX(m:Nat):Prop:=∀(x:X),SizeOf.sizeOf x<m→∀(w:World) (v:Value) (hv:XV w 1048576 v x),
 Calls Tryz.prog 20 #[v] w fun e w'=>e=.returned (.tuple #[.bool (plainX x).1,.bool (plainX x).2])∧Below w.heap.size w w'
theorem plain_all : ∀ m, PlX m := by
 intro m
 induction m with
 |zero=>intro x hm;omega
 | succ m ih =>
  intro x hm w v hv
  cases hv with
  | mk op t kk b n t2 u2 sv l f aa ca args ap cp plan am mt cm ag gp cg i0 i1 ik i_n i2 i3 hl ha hp hmt hgp =>
   unfold c13
   obtain⟨e1,e3,rfl⟩:=hl.form6
   obtain⟨e2,he2⟩:∃e2,l.length=e2:=⟨_,rfl⟩
   rw[he2]
   have hkl:kindV (.mk kk b n t2 u2 l)=kk:=rfl
   obtain⟨X0,hX0⟩:∃X0,X.mk op t (.mk kk b n t2 u2 l) f args plan mt gp=X0:=⟨_,rfl⟩
   rw[hX0]
   have hsm:∀a∈args,SizeOf.sizeOf a<m:=fun a hma=>by
    have h1:=List.sizeOf_lt_of_mem hma
    simp at hm
    omega
   have hpx:plainX X0=if op=1 then(true,decide (kk=1∨kk=0)) else if op=2 then(true,false) else if op=16∨(9≤op∧op≤14) then((plainXs args).1,true) else if op=6∨op=7∨op=8∨op=5 then((plainXs args).1&&(plainXs args).2,true) else(false,false):=by
    rw[←hX0,plainX,hkl]
   obtain⟨q1,q2,hqq⟩:∃q1 q2,plainX X0=(q1,q2):=⟨_,_,rfl⟩
   rw[hqq]at hpx ⊢
   dsimp only
   have hal:Below w.heap.size w (w.alloc (.cells #[.int .i64 op,.string t,.int .i64 kk,.bool b,.int .i64 n,.string t2,.string u2,.slice e1 e2 e3,.bool f,.slice aa args.length ca,.slice ap plan.length cp,.slice am mt cm,.slice ag gp cg] 43)):=(Below.refl _ _).alloc (Nat.le_refl _) _
   have hq:=Blk.new w #[.int .i64 op,.string t,.int .i64 kk,.bool b,.int .i64 n,.string t2,.string u2,.slice e1 e2 e3,.bool f,.slice aa args.length ca,.slice ap plan.length cp,.slice am mt cm,.slice ag gp cg] 43
   obtain⟨_,_,_,hxl⟩:=xs_form ha
   have hxi:(args.length:Int)≤1048576:=by omega
   replace hX0:=Hd hX0
   replace hpx:=Hd hpx
   replace hqq:=Hd hqq
   replace hkl:=Hd hkl
   replace he2:=Hd he2
   replace ih:=Hd ih
   replace hl:=Hd hl
   replace hp:=Hd hp
   replace ha:=Hd ha
   have x9:=hq.cell 9 rfl
   replace hal:=Hd hal
   replace hq:=Hd hq
   go_enter Tryz.func20,Tryz.ntmps20
   go_wp2
   go_loopw [4,5,13] (fun v4 v5 v wr=>∃(i:Nat) (a1 a2:Bool),i≤args.length∧v4=.bool a1∧v5=.bool a2∧v=.int .i64 (i:Int)∧Hid (Blk wr w.heap.size #[.int .i64 op,.string t,.int .i64 kk,.bool b,.int .i64 n,.string t2,.string u2,.slice e1 e2 e3,.bool f,.slice aa args.length ca,.slice ap plan.length cp,.slice am mt cm,.slice ag gp cg] 43)∧Hid (Below w.heap.size w wr)∧Hid (a1=(args.take i).all (fun x=>(plainX x).1)∧a2=(args.take i).all (fun x=>(plainX x).2))) (fun _ _ v _=>args.length-(intOf v).toNat)
   case atStart=>exact⟨0,true,true,by omega,rfl,rfl,rfl,hq,hal,Hd ⟨by simp,by simp⟩⟩
   case round =>
    clear x9 hq hal
    obtain⟨i,a1,a2,hi,rfl,rfl,rfl,hqr,hbr,hinv⟩:=hrel
    obtain⟨wq,rfl⟩:∃wq:World,wq=wr:=⟨_,rfl⟩
    by_cases hlt:i<args.length
    ·have hilt:(i:Int)<(args.length:Int):=by omega
     obtain⟨bA,oA,csA,rfl,hrow,hxv⟩:=xs_at ha.out i hlt
     obtain⟨xA,hxA⟩:∃xA,args[i]'hlt=xA:=⟨_,rfl⟩
     have hsA:=hsm _ (List.getElem_mem hlt)
     rw[hxA]at hxv hsA
     have htk:=List.take_succ_eq_append_getElem hlt
     rw[hxA]at htk
     replace htk:=Hd htk
     replace hxA:=Hd hxA
     obtain⟨o1,s1,k2,b1,n1,s2,s3,g1,g2,g3,f1,e4,e5,e6,e7,e8,e9,d1,d2,d3,d4,d5,d6,rfl⟩:=hxv.form
     obtain⟨y0,y1,y2,y3,y4,y5,y6,y7,y8,y9,y10,y11,y12⟩:=(hrow.below hbr.out).all
     have hbA:=hbr.out.alloc hbr.out.size (.cells #[.int .i64 o1,.string s1,.int .i64 k2,.bool b1,.int .i64 n1,.string s2,.string s3,.slice g1 g2 g3,.bool f1,.slice e4 e5 e6,.slice e7 e8 e9,.slice d1 d2 d3,.slice d4 d5 d6] 43)
     have hqA:=hqr.out.alloc (.cells #[.int .i64 o1,.string s1,.int .i64 k2,.bool b1,.int .i64 n1,.string s2,.string s3,.slice g1 g2 g3,.bool f1,.slice e4 e5 e6,.slice e7 e8 e9,.slice d1 d2 d3,.slice d4 d5 d6] 43)
     have hnA:=Blk.new wq #[.int .i64 o1,.string s1,.int .i64 k2,.bool b1,.int .i64 n1,.string s2,.string s3,.slice g1 g2 g3,.bool f1,.slice e4 e5 e6,.slice e7 e8 e9,.slice d1 d2 d3,.slice d4 d5 d6] 43
     obtain⟨r1,r2,hr⟩:∃r1 r2,plainX xA=(r1,r2):=⟨_,_,rfl⟩
     have hcall:Calls Tryz.prog 20 #[.agg #[.int .i64 o1,.string s1,.int .i64 k2,.bool b1,.int .i64 n1,.string s2,.string s3,.slice g1 g2 g3,.bool f1,.slice e4 e5 e6,.slice e7 e8 e9,.slice d1 d2 d3,.slice d4 d5 d6]] (wq.alloc (.cells #[.int .i64 o1,.string s1,.int .i64 k2,.bool b1,.int .i64 n1,.string s2,.string s3,.slice g1 g2 g3,.bool f1,.slice e4 e5 e6,.slice e7 e8 e9,.slice d1 d2 d3,.slice d4 d5 d6] 43)) fun e w'=>e=.returned (.tuple #[.bool (plainX xA).1,.bool (plainX xA).2])∧Below (wq.alloc (.cells #[.int .i64 o1,.string s1,.int .i64 k2,.bool b1,.int .i64 n1,.string s2,.string s3,.slice g1 g2 g3,.bool f1,.slice e4 e5 e6,.slice e7 e8 e9,.slice d1 d2 d3,.slice d4 d5 d6] 43)).heap.size (wq.alloc (.cells #[.int .i64 o1,.string s1,.int .i64 k2,.bool b1,.int .i64 n1,.string s2,.string s3,.slice g1 g2 g3,.bool f1,.slice e4 e5 e6,.slice e7 e8 e9,.slice d1 d2 d3,.slice d4 d5 d6] 43)) w':=
      ih.out xA hsA _ _ (hxv.stay hbA)
     rw[hr]at hcall
     dsimp only at hcall
     replace hr:=Hd hr
     have t0:=hnA.cell 0 rfl
     have t1:=hnA.cell 1 rfl
     have t2a:=hnA.cell 2 rfl
     have t3:=hnA.cell 3 rfl
     have t4:=hnA.cell 4 rfl
     have t5:=hnA.cell 5 rfl
     have t6:=hnA.cell 6 rfl
     have t7:=hnA.cell 7 rfl
     have t8:=hnA.cell 8 rfl
     have t9:=hnA.cell 9 rfl
     have t10:=hnA.cell 10 rfl
     have t11:=hnA.cell 11 rfl
     have t12:=hnA.cell 12 rfl
     replace hbA:=Hd hbA
     replace hqA:=Hd hqA
     replace hcall:=Hd hcall
     replace hxv:=Hd hxv
     clear hrow hqr hbr hnA
     go_wp2_with fail
     refine hcall.out.mono ?_
     rintro e w5 ⟨rfl,hb5⟩
     clear hcall y0 y1 y2 y3 y4 y5 y6 y7 y8 y9 y10 y11 y12
     clear t0 t1 t2a t3 t4 t5 t6 t7 t8 t9 t10 t11 t12
     have hq5:Hid (Blk w5 w.heap.size _ _):=Hd ((hb5.block _ hqA.out.lt).trans hqA.out)
     have hb6:=Hd (hbA.out.trans (hb5.mono hbA.out.size))
     have hinv2:Hid ((a1&&r1)=(args.take (i+1)).all (fun x=>(plainX x).1)∧(a2&&r2)=(args.take (i+1)).all (fun x=>(plainX x).2)):=Hd (by
      rw[htk.out,List.all_append,List.all_append,←hinv.out.1,←hinv.out.2]
      simp[hr.out])
     clear hb5 hbA hqA hinv
     cases a1<;>cases a2
     all_goals
      go_wp2
      go_roundw
      case rel=>exact⟨i+1,_,_,hlt,rfl,rfl,by go_num,hq5,hb6,hinv2⟩
      case measure=>simp[intOf];omega
    ·have hilt:¬(i:Int)<(args.length:Int):=by omega
     obtain rfl:i=args.length:=by omega
     have hq5:=hqr.out
     have x0:=hq5.cell 0 rfl
     have x2:=hq5.cell 2 rfl
     obtain⟨h1,h2⟩:=hinv.out
     rw[List.take_length,←(plainXs_all args).1]at h1
     rw[List.take_length,←(plainXs_all args).2]at h2
     have hpx2:=hpx.out
     rw[←h1,←h2]at hpx2
     replace hpx2:=Hd hpx2
     clear h1 h2 hinv hqr hq5
     by_cases o1:op=1
     ·subst o1
      have h3:=hpx2.out
      rw[if_pos rfl]at h3
      injection h3 with h3 h4
      subst h3
      by_cases c1:kk=1
      ·subst c1
       obtain rfl:q2=true:=h4
       clear hpx hpx2 hqq
       go_wp2
       go_region
       all_goals go_wp2
       all_goals go_ret2
       all_goals exact⟨rfl,Below_drewN 1 hbr.out⟩
      ·by_cases c0:kk=0
       ·subst c0
        obtain rfl:q2=true:=h4
        clear hpx hpx2 hqq
        go_wp2
        go_region
        all_goals go_wp2
        all_goals go_ret2
        all_goals exact⟨rfl,Below_drewN 1 hbr.out⟩
       ·have cb1:(kk==1)=false:=beq_eq_false_iff_ne.2 c1
        have cb0:(kk==0)=false:=beq_eq_false_iff_ne.2 c0
        obtain rfl:q2=false:=by rw[h4];simp[c1,c0]
        clear hpx hpx2 hqq h4
        go_wp2
        go_region
        all_goals go_wp2
        all_goals go_ret2
        all_goals exact⟨rfl,Below_drewN 1 hbr.out⟩
     have hb1:(op==1)=false:=beq_eq_false_iff_ne.2 o1
     by_cases o2:op=2
     ·subst o2
      have h3:=hpx2.out
      rw[if_neg (by decide),if_pos rfl]at h3
      injection h3 with h3 h4
      subst h3 h4
      clear hpx hpx2 hqq
      go_wp2
      go_ret2
      exact⟨rfl,hbr.out⟩
     have hb2:(op==2)=false:=beq_eq_false_iff_ne.2 o2
     by_cases o16:op=16
     ·subst o16
      have h3:=hpx2.out
      rw[if_neg (by decide),if_neg (by decide),if_pos (.inl rfl)]at h3
      injection h3 with h3 h4
      subst h3 h4
      clear hpx hpx2 hqq
      go_wp2
      go_ret2
      exact⟨rfl,hbr.out⟩
     have hb16:(op==16)=false:=beq_eq_false_iff_ne.2 o16
     have cC:=Hd (fun w=>xcomp_any w op)
     by_cases o9:9≤op∧op≤14
     ·have h3:=hpx2.out
      rw[if_neg o1,if_neg o2,if_pos (.inr o9)]at h3
      injection h3 with h3 h4
      subst h3 h4
      clear hpx hpx2 hqq
      rw[decide_eq_true o9]at cC
      go_wp2_with fail
      refine(cC.out _).mono ?_
      rintro e w6 ⟨rfl,rfl⟩
      clear cC
      go_wp2
      go_ret2
      exact⟨rfl,hbr.out⟩
     rw[decide_eq_false o9]at cC
     have h3:=hpx2.out
     rw[if_neg o1,if_neg o2,if_neg (fun h=>h.elim o16 o9)]at h3
     clear hpx hpx2 hqq
     go_wp2_with fail
     refine(cC.out _).mono ?_
     rintro e w6 ⟨rfl,rfl⟩
     clear cC
     by_cases o6:op=6∨op=7∨op=8∨op=5
     ·rw[if_pos o6]at h3
      injection h3 with h3 h4
      subst h4
      replace h3:=Hd h3
      rcases o6 with rfl|rfl|rfl|rfl
      all_goals
       cases a1
       all_goals
        go_wp2
        go_ret2
        exact⟨by rw[h3.out];rfl,hbr.out⟩
     ·rw[if_neg o6]at h3
      injection h3 with h3 h4
      subst h3 h4
      have hb6:(op==6)=false:=beq_eq_false_iff_ne.2 (by omega)
      have hb7:(op==7)=false:=beq_eq_false_iff_ne.2 (by omega)
      have hb8:(op==8)=false:=beq_eq_false_iff_ne.2 (by omega)
      have hb5:(op==5)=false:=beq_eq_false_iff_ne.2 (by omega)
      go_wp2
      go_ret2
      exact⟨rfl,hbr.out⟩
end Go.Proofs.YtcaeipdgbaligaaGreatDoor.ex
set_option linter.unusedSimpArgs false
set_option linter.unusedVariables false
set_option maxHeartbeats 8000000
namespace Go.Proofs.YtcaeipdgbaligaaGreatDoor.ex
open Go.ChangeShapes Go.WideShapes Go.ChangeAt Go.RowKit kit dec val tab
set_option maxRecDepth 100000
theorem xsafe_any(w:World)(hE:Env w)(lang:Int)(v:Value)(x:X)(hv:XV w 1048576 v x):Calls Tryz.prog 7 #[.int .i64 lang,v] w fun e w'=>e=.returned (.bool (safeX (decide (lang=1)) x))∧Below w.heap.size w w':=by
 have hag:∃cs,v=.agg cs:=by cases hv;exact⟨_,rfl⟩
 obtain⟨cs,rfl⟩:=hag
 obtain⟨o1,s1,k2,b1,n1,s2,s3,e1,e2,e3,f1,e4,e5,e6,e7,e8,e9,d1,d2,d3,d4,d5,d6,rfl⟩:=hv.form
 have hop:∃x2 x3 x4 x5 x6 x7 x8,x=.mk o1 x2 x3 x4 x5 x6 x7 x8:=by
  generalize hvv:Value.agg (c13 o1 s1 k2 b1 n1 s2 s3 (.slice e1 e2 e3) f1 (.slice e4 e5 e6) (.slice e7 e8 e9) (.slice d1 d2 d3) (.slice d4 d5 d6))=vv at hv
  cases hv with
  |mk op t kk b n t2 u2 sv l f aa ca args ap cp plan am mt cm ag gp cg i0 i1 ik i_n i2 i3 hl ha hp hmt hgp=>
   injection hvv with h1
   unfold c13 at h1
   have h2:=Array.mk.inj h1
   simp only[List.cons.injEq,Value.int.injEq]at h2
   obtain⟨⟨-,rfl⟩,-⟩:=h2
   exact⟨_,_,_,_,_,_,_,rfl⟩
 obtain⟨x2,x3,x4,x5,x6,x7,x8,hx⟩:=hop
 have hsx:safeX (decide (lang=1)) x=(mayX (decide (lang=1)) x&&(if decide (lang=1)=true then decide (o1=1) else calmX x)):=by rw[hx];rfl
 rw[hsx]
 clear hsx hx
 have hal:Below w.heap.size w (w.alloc (.cells #[.int .i64 o1,.string s1,.int .i64 k2,.bool b1,.int .i64 n1,.string s2,.string s3,.slice e1 e2 e3,.bool f1,.slice e4 e5 e6,.slice e7 e8 e9,.slice d1 d2 d3,.slice d4 d5 d6] 43)):=(Below.refl _ _).alloc (Nat.le_refl _) _
 have hq:=Blk.new w #[.int .i64 o1,.string s1,.int .i64 k2,.bool b1,.int .i64 n1,.string s2,.string s3,.slice e1 e2 e3,.bool f1,.slice e4 e5 e6,.slice e7 e8 e9,.slice d1 d2 d3,.slice d4 d5 d6] 43
 have cC:=Hd (xcheck_any _ (hE.below hal) lang _ x (hv.stay hal))
 have cP:=Hd (fun W (h:Below w.heap.size w W)=>plain_all (SizeOf.sizeOf x+1) x (Nat.lt_succ_self _) W _ (hv.stay h))
 unfold c13 at cC cP ⊢
 have hcalm:=(plain_calm x).1
 generalize mayX (decide (lang=1)) x=mx at *
 rw[←hcalm]
 clear hcalm
 obtain⟨p1,p2,hpp⟩:∃p1 p2,plainX x=(p1,p2):=⟨_,_,rfl⟩
 rw[hpp]at cP ⊢
 dsimp only at cP ⊢
 have t0:=hq.cell 0 rfl
 have t1:=hq.cell 1 rfl
 have t2a:=hq.cell 2 rfl
 have t3:=hq.cell 3 rfl
 have t4:=hq.cell 4 rfl
 have t5:=hq.cell 5 rfl
 have t6:=hq.cell 6 rfl
 have t7:=hq.cell 7 rfl
 have t8:=hq.cell 8 rfl
 have t9:=hq.cell 9 rfl
 have t10:=hq.cell 10 rfl
 have t11:=hq.cell 11 rfl
 have t12:=hq.cell 12 rfl
 replace hal:=Hd hal
 replace hq:=Hd hq
 replace hpp:=Hd hpp
 replace hv:=Hd hv
 by_cases hl:lang=1
 ·subst hl
  have cL:=fun W=>xlang_any W 1
  rw[if_pos rfl]at cL
  replace cL:=Hd cL
  simp only[decide_true,if_true]
  go_enter Tryz.func7,Tryz.ntmps7
  go_wp2_with fail
  refine cC.out.mono ?_
  rintro e w2 ⟨rfl,hb2⟩
  have hq2:Hid (Blk w2 w.heap.size #[.int .i64 o1,.string s1,.int .i64 k2,.bool b1,.int .i64 n1,.string s2,.string s3,.slice e1 e2 e3,.bool f1,.slice e4 e5 e6,.slice e7 e8 e9,.slice d1 d2 d3,.slice d4 d5 d6] 43):=Hd ((hb2.block _ hq.out.lt).trans hq.out)
  have hbf:=Hd (hal.out.trans (hb2.mono hal.out.size))
  clear t0 t1 t2a t3 t4 t5 t6 t7 t8 t9 t10 t11 t12
  have t0:=hq2.out.cell 0 rfl
  clear hb2 hal hq cC
  cases mx
  ·go_wp2
   go_ret
   exact⟨rfl,hbf.out⟩
  ·go_wp2_with fail
   refine(cL.out _).mono ?_
   rintro e w3 ⟨rfl,rfl⟩
   go_wp2
   go_ret
   exact⟨ret_bool (by rw[Bool.eq_iff_iff];simp),hbf.out⟩
 ·have cL:=fun W=>xlang_any W lang
  rw[if_neg hl]at cL
  replace cL:=Hd cL
  rw[decide_eq_false hl]
  simp only[Bool.false_eq_true,if_false]
  go_enter Tryz.func7,Tryz.ntmps7
  go_wp2_with fail
  refine cC.out.mono ?_
  rintro e w2 ⟨rfl,hb2⟩
  have hq2:Hid (Blk w2 w.heap.size #[.int .i64 o1,.string s1,.int .i64 k2,.bool b1,.int .i64 n1,.string s2,.string s3,.slice e1 e2 e3,.bool f1,.slice e4 e5 e6,.slice e7 e8 e9,.slice d1 d2 d3,.slice d4 d5 d6] 43):=Hd ((hb2.block _ hq.out.lt).trans hq.out)
  have hbf:=Hd (hal.out.trans (hb2.mono hal.out.size))
  clear t0 t1 t2a t3 t4 t5 t6 t7 t8 t9 t10 t11 t12
  have hq2o:=hq2.out
  have t0:=hq2o.cell 0 rfl
  have t1:=hq2o.cell 1 rfl
  have t2a:=hq2o.cell 2 rfl
  have t3:=hq2o.cell 3 rfl
  have t4:=hq2o.cell 4 rfl
  have t5:=hq2o.cell 5 rfl
  have t6:=hq2o.cell 6 rfl
  have t7:=hq2o.cell 7 rfl
  have t8:=hq2o.cell 8 rfl
  have t9:=hq2o.cell 9 rfl
  have t10:=hq2o.cell 10 rfl
  have t11:=hq2o.cell 11 rfl
  have t12:=hq2o.cell 12 rfl
  clear hb2 hal hq cC hq2o
  cases mx
  ·go_wp2
   go_ret
   exact⟨rfl,hbf.out⟩
  ·go_wp2_with fail
   refine(cL.out _).mono ?_
   rintro e w3 ⟨rfl,rfl⟩
   have cP2:=Hd (cP.out w3 hbf.out)
   clear cP
   go_wp2_with fail
   refine cP2.out.mono ?_
   rintro e w4 ⟨rfl,hb4⟩
   have hbg:=Hd (hbf.out.trans (hb4.mono hbf.out.size))
   clear hb4 hbf cP2
   go_wp2
   go_ret
   exact⟨rfl,hbg.out⟩
theorem xhas1_any(w:World)(hb:Nat)(c:Bool)(h:Blk w hb #[.bool c] 4)(cs:Array Value)(o1:Int)(s1:ByteArray)(k2:Int)(b1:Bool)(n1:Int)(s2 s3:ByteArray)(e1:Option Addr)(e2 e3:Nat)(f1:Bool)(e4:Option Addr)(e5 e6:Nat)(e7:Option Addr)(e8 e9:Nat)(d1:Option Addr)(d2 d3:Nat)(d4:Option Addr)(d5 d6:Nat):
 Calls Tryz.prog 35 #[.agg #[.int .i64 o1,.string s1,.int .i64 k2,.bool b1,.int .i64 n1,.string s2,.string s3,.slice e1 e2 e3,.bool f1,.slice e4 e5 e6,.slice e7 e8 e9,.slice d1 d2 d3,.slice d4 d5 d6],.pointer (some ⟨hb,0,none⟩)] w fun e w'=>e=.returned (.tuple #[])∧Keep [hb] w w'∧Blk w' hb #[.bool (c||decide (o1=28))] 4:=by
 have hq:=Blk.new w #[.int .i64 o1,.string s1,.int .i64 k2,.bool b1,.int .i64 n1,.string s2,.string s3,.slice e1 e2 e3,.bool f1,.slice e4 e5 e6,.slice e7 e8 e9,.slice d1 d2 d3,.slice d4 d5 d6] 43
 have h2:=h.alloc (.cells #[.int .i64 o1,.string s1,.int .i64 k2,.bool b1,.int .i64 n1,.string s2,.string s3,.slice e1 e2 e3,.bool f1,.slice e4 e5 e6,.slice e7 e8 e9,.slice d1 d2 d3,.slice d4 d5 d6] 43)
 have x0:=hq.cell 0 rfl
 have z0:=h2.cell 0 rfl
 have f0:=h2.free 0
 have e28:(o1==28)=decide (o1=28):=by rw[Bool.eq_iff_iff];simp
 generalize decide (o1=28)=q at *
 have hk:=Hd (fun y=>((Keep.refl [hb] w).alloc (.cells #[.int .i64 o1,.string s1,.int .i64 k2,.bool b1,.int .i64 n1,.string s2,.string s3,.slice e1 e2 e3,.bool f1,.slice e4 e5 e6,.slice e7 e8 e9,.slice d1 d2 d3,.slice d4 d5 d6] 43)).setCell (p:=⟨hb,0,none⟩) (by simp) (.bool y))
 have hf:=Hd (fun y=>h2.set 0 (.bool y))
 clear hq h2 h
 cases c
 ·go_enter Tryz.func35,Tryz.ntmps35
  go_wp2
  go_end0
  exact⟨rfl,hk.out _,hf.out _⟩
 ·go_enter Tryz.func35,Tryz.ntmps35
  go_wp2
  go_end0
  exact⟨rfl,hk.out _,hf.out _⟩
theorem aggXs_any:∀l:List X,aggXs l=l.any aggX
 |[]=>by rw[aggXs];rfl
 |x::l=>by rw[aggXs,List.any_cons,aggXs_any l]
def HwX(m:Nat):Prop:=∀(x:X),SizeOf.sizeOf x<m→∀(s:Bool) (d:Nat) (g:Bool),okX s d g x=true→∀(w0 w:World) (h0:Below w0.heap.size w0 w) (v:Value) (hv:XV w0 1048576 v x) (hb:Nat) (hhb:w0.heap.size≤hb) (c:Bool) (h:Blk w hb #[.bool c] 4),
 Calls Tryz.prog 28 #[v,.int .i64 (d:Int),.func (.func 35) #[] #[.pointer (some ⟨hb,0,none⟩)]] w fun e w'=>e=.returned (.tuple #[])∧Keep [hb] w w'∧Blk w' hb #[.bool (c||aggX x)] 4
theorem walk_all:∀m,HwX m:=by
 intro m
 induction m with
 |zero=>intro x hm;omega
 | succ m ih =>
  intro x hm s d g hok w0 w h0 v hv hb hhb c h
  cases hv with
  | mk op t kk b n t2 u2 sv l f aa ca args ap cp plan am mt cm ag gp cg i0 i1 ik i_n i2 i3 hl ha hp hmt hgp =>
   unfold c13
   obtain⟨e1,e3,rfl⟩:=hl.form6
   obtain⟨e2,he2⟩:∃e2,l.length=e2:=⟨_,rfl⟩
   rw[he2]
   have hd:=okX_deep hok
   have hoks:∀a∈args,okX s (d+1) (g||decide (op=28)) a=true:=by
    rw[okX,Bool.and_eq_true,okXs_all,List.all_eq_true]at hok
    exact hok.2
   have hax:aggX (.mk op t (.mk kk b n t2 u2 l) f args plan mt gp)=(decide (op=28)||args.any aggX):=by rw[aggX,aggXs_any]
   rw[hax]
   have hsm:∀a∈args,SizeOf.sizeOf a<m:=fun a hma=>by
    have h1:=List.sizeOf_lt_of_mem hma
    simp at hm
    omega
   have hbA:=h0.alloc h0.size (.cells #[.int .i64 op,.string t,.int .i64 kk,.bool b,.int .i64 n,.string t2,.string u2,.slice e1 e2 e3,.bool f,.slice aa args.length ca,.slice ap plan.length cp,.slice am mt cm,.slice ag gp cg] 43)
   have hq:=Blk.new w #[.int .i64 op,.string t,.int .i64 kk,.bool b,.int .i64 n,.string t2,.string u2,.slice e1 e2 e3,.bool f,.slice aa args.length ca,.slice ap plan.length cp,.slice am mt cm,.slice ag gp cg] 43
   have h2:=h.alloc (.cells #[.int .i64 op,.string t,.int .i64 kk,.bool b,.int .i64 n,.string t2,.string u2,.slice e1 e2 e3,.bool f,.slice aa args.length ca,.slice ap plan.length cp,.slice am mt cm,.slice ag gp cg] 43)
   have hne:w.heap.size≠hb:=by have:=h.lt;omega
   have hk:=(Keep.refl [hb] w).alloc (.cells #[.int .i64 op,.string t,.int .i64 kk,.bool b,.int .i64 n,.string t2,.string u2,.slice e1 e2 e3,.bool f,.slice aa args.length ca,.slice ap plan.length cp,.slice am mt cm,.slice ag gp cg] 43)
   have c1:=Hd (xhas1_any (w.alloc (.cells #[.int .i64 op,.string t,.int .i64 kk,.bool b,.int .i64 n,.string t2,.string u2,.slice e1 e2 e3,.bool f,.slice aa args.length ca,.slice ap plan.length cp,.slice am mt cm,.slice ag gp cg] 43)) hb c h2 #[] op t kk b n t2 u2 e1 e2 e3 f aa args.length ca ap plan.length cp am mt cm ag gp cg)
   obtain⟨_,_,_,hxl⟩:=xs_form ha
   have hxi:(args.length:Int)≤1048576:=by omega
   have hdi:¬(60:Int)<(d:Int):=by omega
   have hdj:(d:Int)≤60:=by omega
   obtain⟨gg,hgg⟩:∃gg,(g||decide (op=28))=gg:=⟨_,rfl⟩
   rw[hgg]at hoks
   obtain⟨c0,hc0⟩:∃c0,(c||decide (op=28))=c0:=⟨_,rfl⟩
   rw[hc0]at c1
   replace hgg:=Hd hgg
   replace hc0:=Hd hc0
   replace hd:=Hd hd
   have t0:=hq.cell 0 rfl
   have t1:=hq.cell 1 rfl
   have t2a:=hq.cell 2 rfl
   have t3:=hq.cell 3 rfl
   have t4:=hq.cell 4 rfl
   have t5:=hq.cell 5 rfl
   have t6:=hq.cell 6 rfl
   have t7:=hq.cell 7 rfl
   have t8:=hq.cell 8 rfl
   have t9:=hq.cell 9 rfl
   have t10:=hq.cell 10 rfl
   have t11:=hq.cell 11 rfl
   have t12:=hq.cell 12 rfl
   replace hq:=Hd hq
   replace hk:=Hd hk
   replace hne:=Hd hne
   replace hbA:=Hd hbA
   replace ih:=Hd ih
   replace ha:=Hd ha
   replace hp:=Hd hp
   replace hl:=Hd hl
   replace he2:=Hd he2
   replace hax:=Hd hax
   clear h2 h h0 hok
   go_enter Tryz.func28,Tryz.ntmps28
   go_wp2_with fail
   refine c1.out.mono ?_
   rintro e w2 ⟨rfl,hk2,hb2⟩
   clear t0 t1 t2a t3 t4 t5 t6 t7 t8 t9 t10 t11 t12
   have hq2:=hq.out.keep hk2 (by simpa using hne.out)
   have hkf:=Hd (hk.out.trans hk2 (fun x hx _=>hx))
   have hbB:=Hd (hbA.out.trans (hk2.under w0.heap.size hbA.out.size (by simpa using hhb)))
   replace hb2:=Hd hb2
   have x9:=hq2.cell 9 rfl
   replace hq2:=Hd hq2
   clear hk2 hq hk c1 hbA
   go_wp2
   go_loopw [16] (fun v wr=>∃(i:Nat) (cx:Bool),i≤args.length∧v=.int .i64 (i:Int)∧Hid (Blk wr w.heap.size #[.int .i64 op,.string t,.int .i64 kk,.bool b,.int .i64 n,.string t2,.string u2,.slice e1 e2 e3,.bool f,.slice aa args.length ca,.slice ap plan.length cp,.slice am mt cm,.slice ag gp cg] 43)∧Hid (Blk wr hb #[.bool cx] 4)∧Hid (Below w0.heap.size w0 wr)∧Hid (Keep [hb] w wr)∧Hid (cx=(c0||(args.take i).any aggX))) (fun v _=>args.length-(intOf v).toNat)
   case atStart=>exact⟨0,c0,by omega,rfl,hq2,hb2,hbB,hkf,Hd (by simp)⟩
   case round=>
    clear x9 hq2 hb2 hbB hkf
    obtain⟨i,cx,hi,rfl,hqr,hcr,hbr,hkr,hinv⟩:=hrel
    obtain⟨wq,rfl⟩:∃wq:World,wq=wr:=⟨_,rfl⟩
    by_cases hlt:i<args.length
    ·have hilt:(i:Int)<(args.length:Int):=by omega
     obtain⟨bA,oA,csA,rfl,hrow,hxv⟩:=xs_at ha.out i hlt
     obtain⟨xA,hxA⟩:∃xA,args[i]'hlt=xA:=⟨_,rfl⟩
     have hsA:=hsm _ (List.getElem_mem hlt)
     have hoA:=hoks _ (List.getElem_mem hlt)
     rw[hxA]at hxv hsA hoA
     have htk:=List.take_succ_eq_append_getElem hlt
     rw[hxA]at htk
     replace htk:=Hd htk
     replace hxA:=Hd hxA
     obtain⟨o1,s1,k2,b1,n1,s2,s3,g1,g2,g3,f1,e4,e5,e6,e7,e8,e9,d1,d2,d3,d4,d5,d6,rfl⟩:=hxv.form
     obtain⟨y0,y1,y2,y3,y4,y5,y6,y7,y8,y9,y10,y11,y12⟩:=(hrow.below hbr.out).all
     have hbA:=hbr.out.alloc hbr.out.size (.cells #[.int .i64 o1,.string s1,.int .i64 k2,.bool b1,.int .i64 n1,.string s2,.string s3,.slice g1 g2 g3,.bool f1,.slice e4 e5 e6,.slice e7 e8 e9,.slice d1 d2 d3,.slice d4 d5 d6] 43)
     have hqA:=hqr.out.alloc (.cells #[.int .i64 o1,.string s1,.int .i64 k2,.bool b1,.int .i64 n1,.string s2,.string s3,.slice g1 g2 g3,.bool f1,.slice e4 e5 e6,.slice e7 e8 e9,.slice d1 d2 d3,.slice d4 d5 d6] 43)
     have hcA:=hcr.out.alloc (.cells #[.int .i64 o1,.string s1,.int .i64 k2,.bool b1,.int .i64 n1,.string s2,.string s3,.slice g1 g2 g3,.bool f1,.slice e4 e5 e6,.slice e7 e8 e9,.slice d1 d2 d3,.slice d4 d5 d6] 43)
     have hkA:=hkr.out.alloc (.cells #[.int .i64 o1,.string s1,.int .i64 k2,.bool b1,.int .i64 n1,.string s2,.string s3,.slice g1 g2 g3,.bool f1,.slice e4 e5 e6,.slice e7 e8 e9,.slice d1 d2 d3,.slice d4 d5 d6] 43)
     have hnA:=Blk.new wq #[.int .i64 o1,.string s1,.int .i64 k2,.bool b1,.int .i64 n1,.string s2,.string s3,.slice g1 g2 g3,.bool f1,.slice e4 e5 e6,.slice e7 e8 e9,.slice d1 d2 d3,.slice d4 d5 d6] 43
     have hcall:Calls Tryz.prog 28 #[.agg #[.int .i64 o1,.string s1,.int .i64 k2,.bool b1,.int .i64 n1,.string s2,.string s3,.slice g1 g2 g3,.bool f1,.slice e4 e5 e6,.slice e7 e8 e9,.slice d1 d2 d3,.slice d4 d5 d6],.int .i64 ((d:Int)+1),.func (.func 35) #[] #[.pointer (some ⟨hb,0,none⟩)]] (wq.alloc (.cells #[.int .i64 o1,.string s1,.int .i64 k2,.bool b1,.int .i64 n1,.string s2,.string s3,.slice g1 g2 g3,.bool f1,.slice e4 e5 e6,.slice e7 e8 e9,.slice d1 d2 d3,.slice d4 d5 d6] 43)) fun e w'=>e=.returned (.tuple #[])∧Keep [hb] (wq.alloc (.cells #[.int .i64 o1,.string s1,.int .i64 k2,.bool b1,.int .i64 n1,.string s2,.string s3,.slice g1 g2 g3,.bool f1,.slice e4 e5 e6,.slice e7 e8 e9,.slice d1 d2 d3,.slice d4 d5 d6] 43)) w'∧Blk w' hb #[.bool (cx||aggX xA)] 4:=
      ih.out xA hsA s (d+1) gg hoA w0 _ hbA _ hxv hb hhb cx hcA
     have t0:=hnA.cell 0 rfl
     have t1:=hnA.cell 1 rfl
     have t2a:=hnA.cell 2 rfl
     have t3:=hnA.cell 3 rfl
     have t4:=hnA.cell 4 rfl
     have t5:=hnA.cell 5 rfl
     have t6:=hnA.cell 6 rfl
     have t7:=hnA.cell 7 rfl
     have t8:=hnA.cell 8 rfl
     have t9:=hnA.cell 9 rfl
     have t10:=hnA.cell 10 rfl
     have t11:=hnA.cell 11 rfl
     have t12:=hnA.cell 12 rfl
     replace hbA:=Hd hbA
     replace hqA:=Hd hqA
     replace hkA:=Hd hkA
     replace hcall:=Hd hcall
     replace hxv:=Hd hxv
     replace hoA:=Hd hoA
     clear hrow hqr hbr hnA hkr hcr hcA
     go_wp2_with fail
     refine hcall.out.mono ?_
     rintro e w5 ⟨rfl,hk5,hb5⟩
     clear hcall y0 y1 y2 y3 y4 y5 y6 y7 y8 y9 y10 y11 y12
     clear t0 t1 t2a t3 t4 t5 t6 t7 t8 t9 t10 t11 t12
     have hq5:=Hd (hqA.out.keep hk5 (by simpa using hne.out))
     have hk6:=Hd (hkA.out.trans hk5 (by simp))
     have hb6:=Hd (hbA.out.trans (hk5.under w0.heap.size hbA.out.size (by simpa using hhb)))
     replace hb5:=Hd hb5
     have hinv2:Hid ((cx||aggX xA)=(c0||(args.take (i+1)).any aggX)):=Hd (by
      rw[htk.out,List.any_append,hinv.out]
      simp[Bool.or_assoc])
     clear hk5 hbA hqA hkA hinv
     go_wp2
     go_roundw
     case rel=>exact⟨i+1,_,hlt,by go_num,hq5,hb5,hb6,hk6,hinv2⟩
     case measure=>simp[intOf];omega
    ·have hilt:¬(i:Int)<(args.length:Int):=by omega
     obtain rfl:i=args.length:=by omega
     have h1:=hinv.out
     rw[List.take_length,←hc0.out]at h1
     subst h1
     replace hinv:Hid True:=Hd trivial
     go_wp2
     go_end0
     exact⟨rfl,hkr.out,by rw[←Bool.or_assoc];exact hcr.out⟩
theorem xhasagg_any(w:World)(v:Value)(x:X)(hv:XV w 1048576 v x)(s:Bool)(hok:okX s 1 false x=true):Calls Tryz.prog 21 #[v] w fun e w'=>e=.returned (.bool (aggX x))∧Below w.heap.size w w':=by
 have hag:∃cs,v=.agg cs:=by cases hv;exact⟨_,rfl⟩
 obtain⟨cs,rfl⟩:=hag
 obtain⟨o1,s1,k2,b1,n1,s2,s3,e1,e2,e3,f1,e4,e5,e6,e7,e8,e9,d1,d2,d3,d4,d5,d6,rfl⟩:=hv.form
 have hq:=(Blk.new w (c13 o1 s1 k2 b1 n1 s2 s3 (.slice e1 e2 e3) f1 (.slice e4 e5 e6) (.slice e7 e8 e9) (.slice d1 d2 d3) (.slice d4 d5 d6)) 43).alloc (.cells #[.bool false] 4)
 have h2:=Blk.new (w.alloc (.cells (c13 o1 s1 k2 b1 n1 s2 s3 (.slice e1 e2 e3) f1 (.slice e4 e5 e6) (.slice e7 e8 e9) (.slice d1 d2 d3) (.slice d4 d5 d6)) 43)) #[.bool false] 4
 rw[World.size_alloc]at h2
 have hal:Below w.heap.size w ((w.alloc (.cells (c13 o1 s1 k2 b1 n1 s2 s3 (.slice e1 e2 e3) f1 (.slice e4 e5 e6) (.slice e7 e8 e9) (.slice d1 d2 d3) (.slice d4 d5 d6)) 43)).alloc (.cells #[.bool false] 4)):=((Below.refl _ _).alloc (Nat.le_refl _) _).alloc (by rw[World.size_alloc];omega) _
 have c1:=walk_all (SizeOf.sizeOf x+1) x (Nat.lt_succ_self _) s 1 false hok w _ hal _ hv (w.heap.size+1) (by omega) false h2
 rw[Bool.false_or]at c1
 unfold c13 at c1 hq hal ⊢
 replace c1:Hid (Calls Tryz.prog 28 #[_,.int .i64 1,_] _ _):=Hd c1
 have t0:=hq.cell 0 rfl
 have t1:=hq.cell 1 rfl
 have t2a:=hq.cell 2 rfl
 have t3:=hq.cell 3 rfl
 have t4:=hq.cell 4 rfl
 have t5:=hq.cell 5 rfl
 have t6:=hq.cell 6 rfl
 have t7:=hq.cell 7 rfl
 have t8:=hq.cell 8 rfl
 have t9:=hq.cell 9 rfl
 have t10:=hq.cell 10 rfl
 have t11:=hq.cell 11 rfl
 have t12:=hq.cell 12 rfl
 replace hal:=Hd hal
 replace hv:=Hd hv
 clear hq h2
 go_enter Tryz.func21,Tryz.ntmps21
 go_wp2_with fail
 refine c1.out.mono ?_
 rintro e w2 ⟨rfl,hk2,hb2⟩
 clear t0 t1 t2a t3 t4 t5 t6 t7 t8 t9 t10 t11 t12
 have z0:=hb2.cell 0 rfl
 have hB:=Hd (hal.out.trans (hk2.under w.heap.size hal.out.size (by simp)))
 clear hk2 hb2 hal c1
 go_wp2
 go_ret
 exact⟨rfl,hB.out⟩
end Go.Proofs.YtcaeipdgbaligaaGreatDoor.ex
