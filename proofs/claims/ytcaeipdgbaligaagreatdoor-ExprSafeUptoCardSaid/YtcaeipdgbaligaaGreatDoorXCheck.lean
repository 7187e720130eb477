/- Whether an expression may be: the program's check, whatever the expression. -/
import Derived.Test.YtcaeipdgbaligaaGreatDoorXTakesG
import Derived.Test.YtcaeipdgbaligaaGreatDoorXField29
set_option linter.unusedSimpArgs false
set_option linter.unusedVariables false
set_option maxHeartbeats 8000000
namespace Go.Proofs.YtcaeipdgbaligaaGreatDoor.ex
open Go.ChangeShapes Go.WideShapes Go.ChangeAt Go.RowKit kit dec val tab
set_option maxRecDepth 100000
def CkR(s:Bool)(d:Nat)(g:Bool)(x:X)(k:Nat)(b:Bool)(k':Nat):Prop:=
 (b=true→okX s d g x=true∧k+cntX x≤4096∧k'=k+cntX x)∧(b=false→okX s d g x=false∨4096<k+cntX x)
theorem CkR.no{s:Bool}{d:Nat}{g:Bool}{x:X}{k:Nat}(h:okX s d g x=false∨4096<k+cntX x)(k':Nat):CkR s d g x k false k':=by
 unfold CkR
 exact⟨fun h=>(by cases h),fun _=>h⟩
theorem CkR.yes{s:Bool}{d:Nat}{g:Bool}{x:X}{k k':Nat}(h:okX s d g x=true)(h2:k+cntX x≤4096)(h3:k'=k+cntX x):CkR s d g x k true k':=by
 unfold CkR
 exact⟨fun _=>⟨h,h2,h3⟩,fun h=>(by cases h)⟩
def CkP(s:Bool)(d:Nat)(g:Bool)(x:X)(k:Nat)(cb:Nat)(w:World)(e:Ending)(w':World):Prop:=
 ∃(b:Bool) (k':Nat),e=.returned (.bool b)∧Keep [cb] w w'∧Blk w' cb #[.int .i64 (sI s),.int .i64 (k':Int)] 72∧CkR s d g x k b k'
def CkX(s:Bool)(m:Nat):Prop:=∀(x:X),SizeOf.sizeOf x<m→∀(w0 w:World) (hE:Env w0) (h0:Below w0.heap.size w0 w) (v:Value) (hv:XV w0 1048576 v x) (cb:Nat) (hcb:w0.heap.size≤cb) (d k:Nat) (hd:d≤61) (hk:k≤4096) (g:Bool) (hc:Blk w cb #[.int .i64 (sI s),.int .i64 (k:Int)] 72),
 Calls Tryz.prog 23 #[.pointer (some ⟨cb,0,none⟩),v,.int .i64 (d:Int),.bool g] w (CkP s d g x k cb w)
theorem check_all (s : Bool) : ∀ m, CkX s m := by
 intro m
 induction m with
 |zero=>intro x hm;omega
 | succ m ih =>
  intro x hm w0 w hE h0 v hv cb hcb d k hd hk g hc
  cases hv with
  | mk op t kk b n t2 u2 sv l f aa ca args ap cp plan am mt cm ag gp cg i0 i1 ik i_n i2 i3 hl ha hp hmt hgp =>
   unfold c13
   obtain⟨X0,hX0⟩:∃X0,X.mk op t (.mk kk b n t2 u2 l) f args plan mt gp=X0:=⟨_,rfl⟩
   rw[hX0]
   have hsm:∀a∈args,SizeOf.sizeOf a<m:=fun a hma=>by
    have h1:=List.sizeOf_lt_of_mem hma
    simp at hm
    omega
   have hok:okX s d g X0=(decide (d≤60)&&ownX s op t (.mk kk b n t2 u2 l) f args.length plan mt gp&&!(g&&decide (op=28))&&okXs s (d+1) (g||decide (op=28)) args):=by rw[←hX0,okX]
   have hcn:cntX X0=1+cntXs args:=by rw[←hX0,cntX]
   replace hX0:=Hd hX0
   replace hok:=Hd hok
   replace hcn:=Hd hcn
   obtain⟨k1,hk1⟩:∃k1:Nat,k+1=k1:=⟨_,rfl⟩
   have hki:(k:Int)+1=(k1:Int):=by omega
   have hq:=Blk.new w #[.int .i64 op,.string t,.int .i64 kk,.bool b,.int .i64 n,.string t2,.string u2,sv,.bool f,.slice aa args.length ca,.slice ap plan.length cp,.slice am mt cm,.slice ag gp cg] 43
   have hca:=hc.alloc (.cells #[.int .i64 op,.string t,.int .i64 kk,.bool b,.int .i64 n,.string t2,.string u2,sv,.bool f,.slice aa args.length ca,.slice ap plan.length cp,.slice am mt cm,.slice ag gp cg] 43)
   have hne:cb≠w.heap.size:=by have:=hc.lt;omega
   have hc2:=hca.set 1 (.int .i64 ((k:Int)+1))
   have hq2:=hq.set_other ⟨cb,1,none⟩ (fun e=>hne e.symm) (.int .i64 ((k:Int)+1))
   have hb2:=(h0.alloc h0.size (.cells #[.int .i64 op,.string t,.int .i64 kk,.bool b,.int .i64 n,.string t2,.string u2,sv,.bool f,.slice aa args.length ca,.slice ap plan.length cp,.slice am mt cm,.slice ag gp cg] 43)).setCell (p:=⟨cb,1,none⟩) hcb (.int .i64 ((k:Int)+1))
   have hk2:=((Keep.refl [cb] w).alloc (.cells #[.int .i64 op,.string t,.int .i64 kk,.bool b,.int .i64 n,.string t2,.string u2,sv,.bool f,.slice aa args.length ca,.slice ap plan.length cp,.slice am mt cm,.slice ag gp cg] 43)).setCell (p:=⟨cb,1,none⟩) (by simp) (.int .i64 ((k:Int)+1))
   have f1:=hca.free 1
   have z0:=hca.cell 0 rfl
   have z1:=hca.cell 1 rfl
   have hkw:(k:Int)≤4096:=by omega
   replace hc2:Hid (Blk _ cb #[.int .i64 (sI s),.int .i64 ((k:Int)+1)] 72):=Hd hc2
   replace hq2:=Hd hq2
   replace hb2:=Hd hb2
   replace hk2:=Hd hk2
   replace hki:=Hd hki
   replace hk1:=Hd hk1
   have hne2:=Hd hne
   replace ih:=Hd ih
   replace ha:=Hd ha
   replace hp:=Hd hp
   replace hl:=Hd hl
   clear hq hca hne h0 hc
   go_enter Tryz.func23,Tryz.ntmps23
   go_upto_region 2 with fail
   clear f1 z0 z1
   obtain⟨p,hpe⟩:∃p,w.heap.size=p:=⟨_,rfl⟩
   rw[hki.out]at hc2 hq2 hb2 hk2 ⊢
   rw[hpe]at hq2 hne2 ⊢
   replace hpe:=Hd hpe
   generalize (w.alloc (.cells #[.int .i64 op,.string t,.int .i64 kk,.bool b,.int .i64 n,.string t2,.string u2,sv,.bool f,.slice aa args.length ca,.slice ap plan.length cp,.slice am mt cm,.slice ag gp cg] 43)).setCell ⟨cb,1,none⟩ (.int .i64 (k1:Int))=w1 at *
   have z1:=hc2.out.cell 1 rfl
   have x0:=hq2.out.cell 0 rfl
   go_cut [37] from 21 to 37 (fun c wx=>c=.bool (decide (60<d∨4096<k1∨(g=true∧op=28)))∧wx=w1)
   case first=>
    by_cases c1:60<d
    ·have c1i:(60:Int)<(d:Int):=by omega
     go_wp2
     go_meet
     exact⟨congrArg Value.bool (by simp[c1]),rfl⟩
    ·have c1i:¬(60:Int)<(d:Int):=by omega
     by_cases c2:4096<k1
     ·have c2i:(4096:Int)<(k1:Int):=by omega
      go_wp2
      go_meet
      exact⟨congrArg Value.bool (by simp[c2]),rfl⟩
     ·have c2i:¬(4096:Int)<(k1:Int):=by omega
      cases g
      ·go_wp2
       go_meet
       exact⟨congrArg Value.bool (by simp[c1,c2]),rfl⟩
      ·go_wp2
       go_meet
       exact⟨congrArg Value.bool (by rw[Bool.eq_iff_iff];simp[c1,c2]),rfl⟩
   case rest =>
    obtain⟨rfl,rfl⟩:=hcut
    by_cases hbad:60<d∨4096<k1∨(g=true∧op=28)
    ·rw[decide_eq_true hbad]
     go_wp2
     go_ret
     refine⟨false,k1,rfl,hk2.out,hc2.out,CkR.no ?_ _⟩
     have h1:=hok.out
     have h2:=hcn.out
     have h3:=hk1.out
     rcases hbad with h|h|⟨h,h'⟩
     ·left
      rw[h1,decide_eq_false (by omega)]
      simp
     ·right
      omega
     ·left
      rw[h1,h,decide_eq_true h']
      simp
    rw[decide_eq_false hbad]
    have hd6:d≤60:=by omega
    have hk6:k1≤4096:=by omega
    have hg6:(g&&decide (op=28))=false:=by
     cases g
     ·rfl
     ·rw[decide_eq_false (fun h=>hbad (.inr (.inr ⟨rfl,h⟩)))];rfl
    replace hok:Hid (okX s d g X0=(ownX s op t (.mk kk b n t2 u2 l) f args.length plan mt gp&&okXs s (d+1) (g||decide (op=28)) args)):=Hd (by rw[hok.out,hg6,decide_eq_true hd6];simp)
    replace hg6:=Hd hg6
    replace hd6:=Hd hd6
    replace hk6:=Hd hk6
    clear hbad x0 z1
    go_upto_region 4 with fail
    have hd:Below wc.heap.size wc wc.drew:=below_drewN (Below.refl _ _) 1
    have hS0:Blk wc.drew p #[.int .i64 op,.string t,.int .i64 kk,.bool b,.int .i64 n,.string t2,.string u2,sv,.bool f,.slice aa args.length ca,.slice ap plan.length cp,.slice am mt cm,.slice ag gp cg] 43∧Blk wc.drew cb #[.int .i64 (sI s),.int .i64 (k1:Int)] 72:=⟨hq2.out,hc2.out⟩
    have hb3:=Hd (hb2.out.trans (hd.mono hb2.out.size))
    have hk3:=Hd (hk2.out.trans (Keep.ofBelow hd) (by simp))
    clear hd hq2 hc2 hb2 hk2
    refine wp_region_held_drew (S:=fun V=>Blk V p #[.int .i64 op,.string t,.int .i64 kk,.bool b,.int .i64 n,.string t2,.string u2,sv,.bool f,.slice aa args.length ca,.slice ap plan.length cp,.slice am mt cm,.slice ag gp cg] 43∧Blk V cb #[.int .i64 (sI s),.int .i64 (k1:Int)] 72) (by kernel_rfl) hS0 (fun hS=>?_)
    generalize wc.drew=V0 at *
    obtain⟨ax,cx,hxf,hxl⟩:=xs_form ha.out
    obtain⟨ay,cy,hyf,hyl⟩:=ps_form hp.out
    clear hxf hyf
    have hrr:=tk3_le s op t args.length
    obtain⟨r,hr⟩:∃r,tk3 s op t args.length=r:=⟨_,rfl⟩
    have cT:=takes_all V0 s op t i1 kk b n t2 u2 sv f aa args.length ca hxl (.slice ap plan.length cp) (.slice am mt cm) (.slice ag gp cg)
    rw[hr]at cT hrr
    obtain⟨r1,r2,r3⟩:=r
    unfold tupOf tup3 c13 at cT
    dsimp only at cT hrr
    have hxl2:=Hd hxl
    replace hr:=Hd hr
    replace hrr:=Hd hrr
    clear hxl
    refine tkS [0,1,2,3,4] ?_
    iterate 5
     refine tkC ?_ rfl (fun w' hS=>?_) hS ?_
     rotate_left
     ·
      have z0:=hS.2.cell 0 rfl;have z1:=hS.2.cell 1 rfl;have hs1:=hS.1;have x0:=hs1.cell 0 rfl;have x1:=hs1.cell 1 rfl;have x2:=hs1.cell 2 rfl;have x3:=hs1.cell 3 rfl;have x4:=hs1.cell 4 rfl;have x5:=hs1.cell 5 rfl;have x6:=hs1.cell 6 rfl;have x7:=hs1.cell 7 rfl;have x8:=hs1.cell 8 rfl;have x9:=hs1.cell 9 rfl;have x10:=hs1.cell 10 rfl;have x11:=hs1.cell 11 rfl;have x12:=hs1.cell 12 rfl
      go_simp
      try with_reducible rfl
    refine rdH 5 rfl (fun K hK=>?_)
    clear hS
    go_simp
    refine(cT).mono ?_
    rintro e w2 ⟨rfl,hb4⟩
    go_wp2_with fail
    refine hKo hK (⟨(hb4.block _ hS0.1.lt).trans hS0.1,(hb4.block _ hS0.2.lt).trans hS0.2⟩) (fun hS=>?_)
    clear hK K
    have hq3:Hid (Blk w2 p #[.int .i64 op,.string t,.int .i64 kk,.bool b,.int .i64 n,.string t2,.string u2,sv,.bool f,.slice aa args.length ca,.slice ap plan.length cp,.slice am mt cm,.slice ag gp cg] 43):=Hd ((hb4.block _ hS0.1.lt).trans hS0.1)
    have hc3:Hid (Blk w2 cb #[.int .i64 (sI s),.int .i64 (k1:Int)] 72):=Hd ((hb4.block _ hS0.2.lt).trans hS0.2)
    have hb5:=Hd (hb3.out.trans (hb4.mono hb3.out.size))
    have hk5:=Hd (hk3.out.trans (Keep.ofBelow hb4) (by simp))
    clear hb4 hS0 hb3 hk3
    refine tkS [6,7,8,9,10,11,12] ?_
    iterate 7
     refine tkC ?_ rfl (fun w' hS=>?_) hS ?_
     rotate_left
     ·
      skip
      go_simp
      try with_reducible rfl
    refine wpAnyH_done (by kernel_rfl) ?_ _
    clear hS
    have cF:=fields_all w2 (hE.below hb5.out) op t i1 kk b n t2 u2 i2 i3 sv l (hl.out.stay hb5.out) f (.slice aa args.length ca) ap am ag plan cp mt cm gp cg (PS.stay hb5.out hp.out) hmt hgp
    unfold c13 at cF
    obtain⟨fb,hfb⟩:∃fb,fieldsR op t (.mk kk b n t2 u2 l) f plan mt gp=fb:=⟨_,rfl⟩
    rw[hfb]at cF
    replace hfb:=Hd hfb
    replace cF:=Hd cF
    have hq3o:=hq3.out
    have x0:=hq3o.cell 0 rfl
    have x1:=hq3o.cell 1 rfl
    have x2:=hq3o.cell 2 rfl
    have x3:=hq3o.cell 3 rfl
    have x4:=hq3o.cell 4 rfl
    have x5:=hq3o.cell 5 rfl
    have x6:=hq3o.cell 6 rfl
    have x7:=hq3o.cell 7 rfl
    have x8:=hq3o.cell 8 rfl
    have x9:=hq3o.cell 9 rfl
    have x10:=hq3o.cell 10 rfl
    have x11:=hq3o.cell 11 rfl
    have x12:=hq3o.cell 12 rfl
    go_upto_region 5 with fail
    go_cut [68] from 48 to 68 (fun c wx=>c=.bool (!(inR (r1,r2,r3) args.length&&fb))∧Hid (Below w2.heap.size w2 wx))
    case first=>
     cases r3
     ·go_wp2
      go_meet
      exact⟨congrArg Value.bool (by unfold inR;simp),Hd (Below.refl _ _)⟩
     by_cases c1:(args.length:Int)<r1
     ·go_wp2
      go_meet
      exact⟨congrArg Value.bool (by unfold inR;rw[decide_eq_false (show ¬r1≤(args.length:Int) by omega)];simp),Hd (Below.refl _ _)⟩
     by_cases c2:r2<(args.length:Int)
     ·go_wp2
      go_meet
      exact⟨congrArg Value.bool (by unfold inR;rw[decide_eq_false (show ¬(args.length:Int)≤r2 by omega)];simp),Hd (Below.refl _ _)⟩
     go_wp2_with fail
     refine cF.out.mono ?_
     rintro e w3 ⟨rfl,hb6⟩
     replace hb6:=Hd hb6
     go_wp2
     go_meet
     exact⟨congrArg Value.bool (by unfold inR;rw[decide_eq_true (show r1≤(args.length:Int) by omega),decide_eq_true (show(args.length:Int)≤r2 by omega)];simp),hb6⟩
    case rest =>
     obtain⟨rfl,hb6⟩:=hcut
     clear x0 x1 x2 x3 x4 x5 x6 x7 x8 x9 x10 x11 x12
     have hq4:Hid (Blk wc p #[.int .i64 op,.string t,.int .i64 kk,.bool b,.int .i64 n,.string t2,.string u2,sv,.bool f,.slice aa args.length ca,.slice ap plan.length cp,.slice am mt cm,.slice ag gp cg] 43):=Hd ((hb6.out.block _ hq3.out.lt).trans hq3.out)
     have hc4:Hid (Blk wc cb #[.int .i64 (sI s),.int .i64 (k1:Int)] 72):=Hd ((hb6.out.block _ hc3.out.lt).trans hc3.out)
     have hb7:=Hd (hb5.out.trans (hb6.out.mono hb5.out.size))
     have hk7:=Hd (hk5.out.trans (Keep.ofBelow hb6.out) (by simp))
     clear hb6 hq3 hc3 hb5 hk5 hq3o cF
     have hown:args.length≤4096→ownX s op t (.mk kk b n t2 u2 l) f args.length plan mt gp=(inR (r1,r2,r3) args.length&&fb):=fun h=>by
      rw[own_eq s op t _ f args.length plan mt gp h,hr.out,hfb.out]
     have hmany:4096<args.length→inR (r1,r2,r3) args.length=false:=fun h=>by
      rw[←hr.out]
      exact own_many s op t _ h
     generalize inR (r1,r2,r3) args.length=inr at *
     cases hgd:(inr&&fb)
     ·go_wp2
      go_ret
      refine⟨false,k1,rfl,hk7.out,hc4.out,CkR.no ?_ _⟩
      by_cases hle:args.length≤4096
      ·left
       rw[hok.out,hown hle,hgd]
       rfl
      ·right
       have h1:=cntXs_len args
       have h2:=hcn.out
       omega
     have hle:args.length≤4096:=by
      by_cases h:args.length≤4096
      ·exact h
      ·have h1:=hmany (by omega)
       rw[h1]at hgd
       cases hgd
     replace hok:Hid (okX s d g X0=okXs s (d+1) (g||decide (op=28)) args):=Hd (by rw[hok.out,hown hle,hgd,Bool.true_and])
     clear hmany hown hgd hr hrr hfb
     obtain⟨gg,hgg⟩:∃gg,(g||decide (op=28))=gg:=⟨_,rfl⟩
     rw[hgg]at hok
     replace hgg:=Hd hgg
     have hq4o:=hq4.out
     have x9:=hq4o.cell 9 rfl
     clear hq4o
     replace hle:=Hd hle
     go_wp2
     go_loopw [72] (fun v wr=>∃(i:Nat) (kx:Nat),i≤args.length∧v=.int .i64 (i:Int)∧Hid (Blk wr cb #[.int .i64 (sI s),.int .i64 (kx:Int)] 72)∧Hid (Blk wr p #[.int .i64 op,.string t,.int .i64 kk,.bool b,.int .i64 n,.string t2,.string u2,sv,.bool f,.slice aa args.length ca,.slice ap plan.length cp,.slice am mt cm,.slice ag gp cg] 43)∧Hid (Below w0.heap.size w0 wr)∧Hid (Keep [cb] w wr)∧Hid ((args.take i).all (okX s (d+1) gg)=true∧kx=k1+cntXs (args.take i)∧kx≤4096)) (fun v _=>args.length-(intOf v).toNat)
     case atStart=>exact⟨0,k1,by omega,rfl,hc4,hq4,hb7,hk7,Hd ⟨by simp,by simp[cntXs],hk6.out⟩⟩
     case round =>
      clear x9 hc4 hq4 hb7 hk7
      obtain⟨i,kx,hi,rfl,hcr,hqr,hbr,hkr,hinv⟩:=hrel
      obtain⟨wq,rfl⟩:∃wq:World,wq=wr:=⟨_,rfl⟩
      by_cases hlt:i<args.length
      ·have hilt:(i:Int)<(args.length:Int):=by omega
       obtain⟨bA,oA,csA,rfl,hrow,hxv⟩:=xs_at ha.out i hlt
       obtain⟨xA,hxA⟩:∃xA,args[i]'hlt=xA:=⟨_,rfl⟩
       have hsA:=hsm _ (List.getElem_mem hlt)
       rw[hxA]at hxv hsA
       replace hxA:=Hd hxA
       have hqo:=hqr.out
       have x0:=hqo.cell 0 rfl
       obtain⟨o1,s1,k2,b1,n1,s2,s3,e1,e2,e3,f1,e4,e5,e6,e7,e8,e9,d1,d2,d3,d4,d5,d6,rfl⟩:=hxv.form
       obtain⟨y0,y1,y2,y3,y4,y5,y6,y7,y8,y9,y10,y11,y12⟩:=(hrow.below hbr.out).all
       have hbA:=hbr.out.alloc hbr.out.size (.cells #[.int .i64 o1,.string s1,.int .i64 k2,.bool b1,.int .i64 n1,.string s2,.string s3,.slice e1 e2 e3,.bool f1,.slice e4 e5 e6,.slice e7 e8 e9,.slice d1 d2 d3,.slice d4 d5 d6] 43)
       have hcA:=hcr.out.alloc (.cells #[.int .i64 o1,.string s1,.int .i64 k2,.bool b1,.int .i64 n1,.string s2,.string s3,.slice e1 e2 e3,.bool f1,.slice e4 e5 e6,.slice e7 e8 e9,.slice d1 d2 d3,.slice d4 d5 d6] 43)
       have hqA:=hqr.out.alloc (.cells #[.int .i64 o1,.string s1,.int .i64 k2,.bool b1,.int .i64 n1,.string s2,.string s3,.slice e1 e2 e3,.bool f1,.slice e4 e5 e6,.slice e7 e8 e9,.slice d1 d2 d3,.slice d4 d5 d6] 43)
       have hkA:=hkr.out.alloc (.cells #[.int .i64 o1,.string s1,.int .i64 k2,.bool b1,.int .i64 n1,.string s2,.string s3,.slice e1 e2 e3,.bool f1,.slice e4 e5 e6,.slice e7 e8 e9,.slice d1 d2 d3,.slice d4 d5 d6] 43)
       have hnA:=Blk.new wq #[.int .i64 o1,.string s1,.int .i64 k2,.bool b1,.int .i64 n1,.string s2,.string s3,.slice e1 e2 e3,.bool f1,.slice e4 e5 e6,.slice e7 e8 e9,.slice d1 d2 d3,.slice d4 d5 d6] 43
       have hcall:Calls Tryz.prog 23 #[.pointer (some ⟨cb,0,none⟩),.agg #[.int .i64 o1,.string s1,.int .i64 k2,.bool b1,.int .i64 n1,.string s2,.string s3,.slice e1 e2 e3,.bool f1,.slice e4 e5 e6,.slice e7 e8 e9,.slice d1 d2 d3,.slice d4 d5 d6],.int .i64 ((d:Int)+1),.bool gg] (wq.alloc (.cells #[.int .i64 o1,.string s1,.int .i64 k2,.bool b1,.int .i64 n1,.string s2,.string s3,.slice e1 e2 e3,.bool f1,.slice e4 e5 e6,.slice e7 e8 e9,.slice d1 d2 d3,.slice d4 d5 d6] 43)) (CkP s (d+1) gg xA kx cb (wq.alloc (.cells #[.int .i64 o1,.string s1,.int .i64 k2,.bool b1,.int .i64 n1,.string s2,.string s3,.slice e1 e2 e3,.bool f1,.slice e4 e5 e6,.slice e7 e8 e9,.slice d1 d2 d3,.slice d4 d5 d6] 43))):=
        ih.out xA hsA w0 _ hE hbA _ hxv cb hcb (d+1) kx (by have:=hd6.out;omega) hinv.out.2.2 gg hcA
       have hdi:(d:Int)≤60:=by have:=hd6.out;omega
       have hlei:(args.length:Int)≤4096:=by have:=hle.out;omega
       have u0:=hqA.cell 0 rfl
       have t0:=hnA.cell 0 rfl
       have t1:=hnA.cell 1 rfl
       have t2a:=hnA.cell 2 rfl
       have t3:=hnA.cell 3 rfl
       have t4:=hnA.cell 4 rfl
       have t5:=hnA.cell 5 rfl
       have t6:=hnA.cell 6 rfl
       have t7:=hnA.cell 7 rfl
       have t8:=hnA.cell 8 rfl
       have t9:=hnA.cell 9 rfl
       have t10:=hnA.cell 10 rfl
       have t11:=hnA.cell 11 rfl
       have t12:=hnA.cell 12 rfl
       replace hbA:=Hd hbA
       replace hqA:=Hd hqA
       replace hkA:=Hd hkA
       replace hcall:=Hd hcall
       replace hxv:=Hd hxv
       clear hrow hcA hqo x0 hbr hcr hqr hkr hnA
       have h28:g=true∧gg=true∨g=false∧(op==28)=gg:=by
        have h:=hgg.out
        cases g
        ·right
         refine⟨rfl,?_⟩
         rw[←h,Bool.eq_iff_iff]
         simp
        ·left
         exact⟨rfl,by rw[←h];rfl⟩
       rcases h28 with⟨rfl,rfl⟩|⟨rfl,h28⟩
       all_goals
        go_wp2_with fail
        refine hcall.out.mono ?_
        rintro e w5 ⟨b5,k5,rfl,hk5,hc5,hck⟩
        clear hcall y0 y1 y2 y3 y4 y5 y6 y7 y8 y9 y10 y11 y12 t0 t1 t2a t3 t4 t5 t6 t7 t8 t9 t10 t11 t12 u0
        have hk6:=Hd (hkA.out.trans hk5 (by simp))
        have hq6:=Hd (hqA.out.keep hk5 (by simpa using hne2.out.symm))
        have hb6:=Hd (hbA.out.trans (hk5.under w0.heap.size hbA.out.size (by simpa using hcb)))
        replace hc5:=Hd hc5
        replace hck:=Hd hck
        clear hk5 hkA hqA hbA
        have hxe:=cntXs_take args i hlt
        rw[hxA.out]at hxe
        replace hxe:=Hd hxe
        cases b5
        ·go_wp2
         go_ret
         refine⟨false,k5,rfl,hk6.out,hc5.out,CkR.no ?_ _⟩
         have h1:=hck.out
         unfold CkR at h1
         rcases h1.2 rfl with h2|h2
         ·left
          rw[hok.out,okXs_all]
          refine Bool.eq_false_iff.2 fun h3=>?_
          have h4:=List.all_eq_true.1 h3 _ (List.getElem_mem hlt)
          rw[hxA.out,h2]at h4
          cases h4
         ·right
          have h3:=hcn.out
          have h4:=hinv.out.2.1
          have h5:=cntXs_take_le args (i+1)
          have h6:=hxe.out
          have h7:=hk1.out
          omega
        ·have h1:=hck.out
         unfold CkR at h1
         obtain⟨h2,h3,h4⟩:=h1.1 rfl
         have hinv2:Hid ((args.take (i+1)).all (okX s (d+1) _)=true∧k5=k1+cntXs (args.take (i+1))∧k5≤4096):=Hd ⟨by
          rw[List.take_succ_eq_append_getElem hlt,List.all_append,hinv.out.1,hxA.out]
          simp[h2],by rw[hxe.out];have:=hinv.out.2.1;omega,by omega⟩
         clear h1 h2 h3 h4 hinv hck
         go_wp2
         go_roundw
         case rel=>
          repeat apply Exists.intro
          exact⟨⟨i+1,k5,hlt,by go_num,hc5,hq6,hb6,hk6,hinv2⟩,rfl⟩
         case measure=>simp[intOf];omega
      ·have hilt:¬(i:Int)<(args.length:Int):=by omega
       obtain rfl:i=args.length:=by omega
       go_wp2
       go_ret
       obtain⟨h1,h2,h3⟩:=hinv.out
       rw[List.take_length]at h1 h2
       have h4:=hcn.out
       have h5:=hk1.out
       exact⟨true,kx,rfl,hkr.out,hcr.out,CkR.yes (by rw[hok.out,okXs_all];exact h1) (by omega) (by omega)⟩
end Go.Proofs.YtcaeipdgbaligaaGreatDoor.ex
