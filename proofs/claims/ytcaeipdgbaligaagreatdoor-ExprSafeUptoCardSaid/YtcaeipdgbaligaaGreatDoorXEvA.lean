/- Texts XVals, XEvA, one behind the other. -/
import Derived.Test.YtcaeipdgbaligaaGreatDoorXHolds
import Derived.Test.YtcaeipdgbaligaaGreatDoorXSafe
set_option linter.unusedSimpArgs false
set_option linter.unusedVariables false
set_option maxHeartbeats 8000000
namespace Go.Proofs.YtcaeipdgbaligaaGreatDoor.ex
open Go.ChangeShapes Go.WideShapes Go.ChangeAt Go.RowKit kit dec val tab logic
open hyp (RowA TextsA textsV textsV_length)
set_option maxRecDepth 100000
structure EvC(w:World)(eb ev:Nat)(ns:List ByteArray)(vs:List V):Prop where
 env:EnvD w
 blk:Blk w eb #[.int .i64 0,.iface 48 (.agg #[.pointer (some ⟨ev,0,none⟩)])] 68
 mem:EnvM w ev ns vs
theorem EvC.stay{w w':World}{eb ev:Nat}{ns:List ByteArray}{vs:List V}(h:EvC w eb ev ns vs)(hb:Below w.heap.size w w'):EvC w' eb ev ns vs:=
 ⟨h.env.below hb,(hb.block _ h.blk.lt).trans h.blk,h.mem.stay hb⟩
def EvP(bx:Bool)(w:World)(e:Ending)(w':World):Prop:=∃k b n t x ao cap l,e=.returned (.tuple #[agg6 k b n t x (.slice ao l.length cap),.int .i64 0])∧Below w.heap.size w w'∧LF w' 1048576 (Fr w.heap.size w') (.slice ao l.length cap) l∧okV 1048576 (.mk k b n t x l)∧mayV (.mk k b n t x l)=true∧(bx=true→k=0∨k=1)
def EvX(m:Nat):Prop:=∀(x:X),SizeOf.sizeOf x<m→∀(d:Nat) (g:Bool),okX false d g x=true→calmX x=true→∀(w:World) (eb ev:Nat) (ns:List ByteArray) (vs:List V) (hC:EvC w eb ev ns vs) (v:Value) (hv:XV w 1048576 v x),
 Calls Tryz.prog 22 #[.pointer (some ⟨eb,0,none⟩),v] w (EvP (bareX x) w)
def fitV(x:X)(v:V):Prop:=mayV v=true∧(bareX x=true→kindV v=0∨kindV v=1)
def VsP(args:List X)(w:World)(e:Ending)(w':World):Prop:=∃us ao cap,e=.returned (.tuple #[.slice ao us.length cap,.int .i64 0])∧us.length=args.length∧Below w.heap.size w w'∧LA w' 1048576 (.slice ao us.length cap) us∧∀j (h:j<us.length) (h':j<args.length),fitV args[j] us[j]
theorem values_of(m:Nat)(ih:EvX m)(args:List X)(hsm:∀a∈args,SizeOf.sizeOf a<m)(d:Nat)(g:Bool)(hok:∀a∈args,okX false d g a=true)(hcalm:∀a∈args,calmX a=true)(w:World)(eb ev:Nat)(ns:List ByteArray)(vs:List V)(hC:EvC w eb ev ns vs)(aa:Option Addr)(ca:Nat)(ha:XS w 1048576 (.slice aa args.length ca) args):
 Calls Tryz.prog 37 #[.pointer (some ⟨eb,0,none⟩),.slice aa args.length ca] w (VsP args w):=by
 obtain⟨_,_,_,hxl⟩:=xs_form ha
 have hxi:(args.length:Int)≤1048576:=by omega
 replace ih:=Hd ih
 replace ha:=Hd ha
 replace hC:=Hd hC
 replace hok:=Hd hok
 replace hcalm:=Hd hcalm
 go_enter Tryz.func37,Tryz.ntmps37
 go_wp2
 go_loopw [6,13] (fun v6 v wr=>∃(i:Nat) (us:List V),i≤args.length∧v=.int .i64 (i:Int)∧us.length=i∧Hid (LF wr 1048576 (Fr w.heap.size wr) v6 us)∧Hid (Below w.heap.size w wr)∧Hid (∀j (h:j<us.length) (h':j<args.length),fitV args[j] us[j])) (fun _ v _=>args.length-(intOf v).toNat)
 case atStart=>exact⟨0,[],by omega,rfl,rfl,Hd (LF.nil _ _ _),Hd (Below.refl _ _),Hd (fun j h=>by simp at h)⟩
 case round =>
  obtain⟨i,us,hi,rfl,hul,hlf,hbr,hinv⟩:=hrel
  obtain⟨wq,rfl⟩:∃wq:World,wq=wr:=⟨_,rfl⟩
  replace hul:=Hd hul
  by_cases hlt:i<args.length
  ·have hilt:(i:Int)<(args.length:Int):=by omega
   obtain⟨bA,oA,csA,rfl,hrow,hxv⟩:=xs_at ha.out i hlt
   obtain⟨xA,hxA⟩:∃xA,args[i]'hlt=xA:=⟨_,rfl⟩
   have hsA:=hsm _ (List.getElem_mem hlt)
   have hoA:=hok.out _ (List.getElem_mem hlt)
   have hcA:=hcalm.out _ (List.getElem_mem hlt)
   rw[hxA]at hxv hsA hoA hcA
   replace hxA:=Hd hxA
   obtain⟨o1,s1,k2,b1,n1,s2,s3,e1,e2,e3,f1,e4,e5,e6,e7,e8,e9,d1,d2,d3,d4,d5,d6,rfl⟩:=hxv.form
   obtain⟨y0,y1,y2,y3,y4,y5,y6,y7,y8,y9,y10,y11,y12⟩:=(hrow.below hbr.out).all
   have hbA:=hbr.out.alloc hbr.out.size (.cells #[.int .i64 o1,.string s1,.int .i64 k2,.bool b1,.int .i64 n1,.string s2,.string s3,.slice e1 e2 e3,.bool f1,.slice e4 e5 e6,.slice e7 e8 e9,.slice d1 d2 d3,.slice d4 d5 d6] 43)
   have hnA:=Blk.new wq #[.int .i64 o1,.string s1,.int .i64 k2,.bool b1,.int .i64 n1,.string s2,.string s3,.slice e1 e2 e3,.bool f1,.slice e4 e5 e6,.slice e7 e8 e9,.slice d1 d2 d3,.slice d4 d5 d6] 43
   have hal:Below wq.heap.size wq (wq.alloc (.cells #[.int .i64 o1,.string s1,.int .i64 k2,.bool b1,.int .i64 n1,.string s2,.string s3,.slice e1 e2 e3,.bool f1,.slice e4 e5 e6,.slice e7 e8 e9,.slice d1 d2 d3,.slice d4 d5 d6] 43)):=(Below.refl _ _).alloc (Nat.le_refl _) _
   have hcall:Calls Tryz.prog 22 #[.pointer (some ⟨eb,0,none⟩),.agg #[.int .i64 o1,.string s1,.int .i64 k2,.bool b1,.int .i64 n1,.string s2,.string s3,.slice e1 e2 e3,.bool f1,.slice e4 e5 e6,.slice e7 e8 e9,.slice d1 d2 d3,.slice d4 d5 d6]] (wq.alloc (.cells #[.int .i64 o1,.string s1,.int .i64 k2,.bool b1,.int .i64 n1,.string s2,.string s3,.slice e1 e2 e3,.bool f1,.slice e4 e5 e6,.slice e7 e8 e9,.slice d1 d2 d3,.slice d4 d5 d6] 43)) (EvP (bareX xA) (wq.alloc (.cells #[.int .i64 o1,.string s1,.int .i64 k2,.bool b1,.int .i64 n1,.string s2,.string s3,.slice e1 e2 e3,.bool f1,.slice e4 e5 e6,.slice e7 e8 e9,.slice d1 d2 d3,.slice d4 d5 d6] 43))):=
    ih.out xA hsA d g hoA hcA _ eb ev ns vs (hC.out.stay hbA) _ (hxv.stay hbA)
   have hlfA:LF (wq.alloc (.cells #[.int .i64 o1,.string s1,.int .i64 k2,.bool b1,.int .i64 n1,.string s2,.string s3,.slice e1 e2 e3,.bool f1,.slice e4 e5 e6,.slice e7 e8 e9,.slice d1 d2 d3,.slice d4 d5 d6] 43)) 1048576 (Fr w.heap.size (wq.alloc (.cells #[.int .i64 o1,.string s1,.int .i64 k2,.bool b1,.int .i64 n1,.string s2,.string s3,.slice e1 e2 e3,.bool f1,.slice e4 e5 e6,.slice e7 e8 e9,.slice d1 d2 d3,.slice d4 d5 d6] 43))) _ us:=hlf.out.after hal
   have t0:=hnA.cell 0 rfl
   have t1:=hnA.cell 1 rfl
   have t2a:=hnA.cell 2 rfl
   have t3:=hnA.cell 3 rfl
   have t4:=hnA.cell 4 rfl
   have t5:=hnA.cell 5 rfl
   have t6:=hnA.cell 6 rfl
   have t7:=hnA.cell 7 rfl
   have t8:=hnA.cell 8 rfl
   have t9:=hnA.cell 9 rfl
   have t10:=hnA.cell 10 rfl
   have t11:=hnA.cell 11 rfl
   have t12:=hnA.cell 12 rfl
   replace hbA:=Hd hbA
   replace hcall:=Hd hcall
   replace hlfA:=Hd hlfA
   replace hxv:=Hd hxv
   clear hrow hbr hnA hlf hal hoA hcA hsA
   go_wp2_with fail
   refine hcall.out.mono ?_
   rintro e w5 ⟨k,b,n,t,x,ao,cap,l,rfl,hb5,hl5,hok5,hm5,hk5⟩
   clear hcall y0 y1 y2 y3 y4 y5 y6 y7 y8 y9 y10 y11 y12
   clear t0 t1 t2a t3 t4 t5 t6 t7 t8 t9 t10 t11 t12
   have hb6:=hbA.out.trans (hb5.mono hbA.out.size)
   have hlf5:LF w5 1048576 (Fr w.heap.size (wq.alloc (.cells #[.int .i64 o1,.string s1,.int .i64 k2,.bool b1,.int .i64 n1,.string s2,.string s3,.slice e1 e2 e3,.bool f1,.slice e4 e5 e6,.slice e7 e8 e9,.slice d1 d2 d3,.slice d4 d5 d6] 43))) _ us:=hlfA.out.stay fun b hS hlt=>hb5.block b hlt
   have hal6:Below w5.heap.size w5 (w5.alloc (.cells #[.int .i64 k,.bool b,.int .i64 n,.string t,.string x,.slice ao l.length cap] 38)):=(Below.refl _ _).alloc (Nat.le_refl _) _
   have hlf6:=hlf5.stay fun b hS hlt=>hal6.block b hlt
   have hl6:=hl5.stay fun b hS hlt=>hal6.block b hlt
   have hb7:=hb6.trans (hal6.mono hb6.size)
   have hq6:=Blk.new w5 #[.int .i64 k,.bool b,.int .i64 n,.string t,.string x,.slice ao l.length cap] 38
   have hs5:=hb5.size
   have hs6:(w5.alloc (.cells #[.int .i64 k,.bool b,.int .i64 n,.string t,.string x,.slice ao l.length cap] 38)).heap.size=w5.heap.size+1:=World.size_alloc _ _
   have u0:=hq6.cell 0 rfl
   have u1:=hq6.cell 1 rfl
   have u2:=hq6.cell 2 rfl
   have u3:=hq6.cell 3 rfl
   have u4:=hq6.cell 4 rfl
   have u5:=hq6.cell 5 rfl
   obtain⟨W6,hW6⟩:∃W6,w5.alloc (.cells #[.int .i64 k,.bool b,.int .i64 n,.string t,.string x,.slice ao l.length cap] 38)=W6:=⟨_,rfl⟩
   rw[hW6]at hlf6 hl6 hb7 u0 u1 u2 u3 u4 u5 hs6
   obtain⟨q,hq⟩:∃q,(wq.alloc (.cells #[.int .i64 o1,.string s1,.int .i64 k2,.bool b1,.int .i64 n1,.string s2,.string s3,.slice e1 e2 e3,.bool f1,.slice e4 e5 e6,.slice e7 e8 e9,.slice d1 d2 d3,.slice d4 d5 d6] 43)).heap.size=q:=⟨_,rfl⟩
   have hqw:w.heap.size≤q:=by rw[←hq];exact hbA.out.size
   rw[hq]at hs5 hl6
   have hlf6':LF W6 1048576 (fun b=>w.heap.size≤b∧b<q) _ us:=hlf6.mono fun b hb=>⟨hb.1,by rw[←hq];exact hb.2⟩
   replace hlf6:=Hd ((hlf6'.stay (w':=W6.alloc (.cells (six (.mk k b n t x l) (.slice ao l.length cap)).toArray 38)) fun b hS hlt=>Below.heap_alloc _ _ b hlt))
   replace hl6:=Hd (hl6.stay (w':=W6.alloc (.cells (six (.mk k b n t x l) (.slice ao l.length cap)).toArray 38)) fun b hS hlt=>Below.heap_alloc _ _ b hlt)
   have hnw:=Hd (news_six W6 (.mk k b n t x l) (.slice ao l.length cap) 38)
   replace hW6:=Hd hW6
   replace hq:=Hd hq
   replace hb7:=Hd hb7
   replace hok5:=Hd hok5
   replace hm5:=Hd hm5
   replace hk5:=Hd hk5
   replace hs6:=Hd hs6
   replace hs5:=Hd hs5
   replace hqw:=Hd hqw
   clear hb5 hl5 hlfA hbA hb6 hal6 hlf5 hlf6' hq6
   unfold agg6
   go_upto_region 8 with fail
   rw[show w5.alloc (.cells #[.int .i64 k,.bool b,.int .i64 n,.string t,.string x,.slice ao l.length cap] 38)=W6 from hW6.out]
   go_wp2_with (at_builtin;refine wpList_push rfl _ _ rfl 1048576 (by omega) (fun b=>w.heap.size≤b∧b<q) _ us rfl hlf6.out ?c2 _ 1 1 [(.mk k b n t x l,.slice ao l.length cap)] (fun j b=>j=0∧(q≤b∧b<w5.heap.size)) rfl rfl hnw.out ?c3 ?c4 ?c5 ?c6 ?c7 ?c8)
   case c2=>intro b hb;have:=hb.2;have:=hs6.out;have:=hs5.out;rw[World.size_alloc];omega
   case c3=>exact one_child (hl6.out.mono fun b hb=>⟨hb.1,hb.2⟩)
   case c4=>rintro j b ⟨_,hb⟩;exact⟨by rw[World.size_alloc];have:=hb.2;have:=hs6.out;omega,fun h=>by have:=h.2;have:=hb.1;omega⟩
   case c5=>rintro i j b ⟨hi,_⟩ ⟨hj,_⟩;omega
   case c6=>exact one_ok hok5.out
   case c7=>rw[List.length_singleton];have:=hul.out;omega
   case c8=>
    intro v' w' hlf' hg hvS
    have hsz':=hg.size
    rw[World.size_alloc]at hsz'
    have hlf3:=Hd (hlf'.mono (S':=Fr w.heap.size w') (by
     have h6:=hs6.out
     have h5:=hs5.out
     have h7:=hqw.out
     rintro b (hb|hb|hb)
     ·exact⟨hb.1,by have:=hb.2;omega⟩
     ·exact⟨by have:=hb.1;omega,by have:=hb.2;omega⟩
     ·exact⟨by have:=hb.1;omega,hb.2⟩))
    have hb8:=Hd (Below.grown (hb7.out.alloc hb7.out.size (.cells (six (.mk k b n t x l) (.slice ao l.length cap)).toArray 38)) hg (by rw[World.size_alloc];have:=hb7.out.size;omega) (fun g hgk=>(hvS g hgk).1))
    have hinv2:Hid (∀j (h:j<(us++[V.mk k b n t x l]).length) (h':j<args.length),fitV args[j] (us++[V.mk k b n t x l])[j]):=Hd (by
     intro j h h'
     have hu:=hul.out
     by_cases hj:j<us.length
     ·rw[List.getElem_append_left hj]
      exact hinv.out j hj h'
     ·have:j=i:=by simp at h;omega
      subst this
      rw[List.getElem_append_right (by omega)]
      simp only[hu,Nat.sub_self,List.getElem_cons_zero]
      exact⟨hm5.out,fun hb=>hk5.out (by rw[←hxA.out];exact hb)⟩)
    have hul2:(us++[V.mk k b n t x l]).length=i+1:=by simp[hul.out]
    clear hlf' hg hvS hlf6 hl6 hnw hb7 hinv u0 u1 u2 u3 u4 u5
    go_wp2
    go_roundw
    case rel=>exact⟨i+1,_,hlt,by go_num,hul2,hlf3,hb8,hinv2⟩
    case measure=>simp[intOf];omega
  ·have hilt:¬(i:Int)<(args.length:Int):=by omega
   obtain rfl:i=args.length:=by omega
   obtain⟨ao3,cap3,rfl,_⟩:=hlf.out.form
   go_wp2
   go_ret2
   exact⟨us,ao3,cap3,rfl,hul.out,hbr.out,hlf.out.toLA,hinv.out⟩
end Go.Proofs.YtcaeipdgbaligaaGreatDoor.ex
set_option linter.unusedSimpArgs false
set_option linter.unusedVariables false
set_option maxHeartbeats 4000000
namespace Go.Proofs.YtcaeipdgbaligaaGreatDoor.ex
open Go.ChangeShapes Go.WideShapes Go.ChangeAt Go.RowKit kit dec val tab logic
open hyp (RowA TextsA textsV textsV_length news_one own_row)
set_option maxRecDepth 100000
theorem own_formX{w:World}{B:Nat}{e:TypeId}{s:Nat}{v:Value}{n:Nat}{xs:List Value}(h:w.ownsRow B e s v n xs):∃a c,v=.slice a n c:=by
 rcases h.2 with⟨rfl,rfl⟩|⟨g,cap,cur,rfl,_⟩
 ·exact⟨_,_,rfl⟩
 ·exact⟨_,_,rfl⟩
theorem isNull_of(m:Nat)(ih:EvX m)(op:Int)(tx:ByteArray)(kk:Int)(bb:Bool)(nn:Int)(t2 u2:ByteArray)(a1:Option Addr)(a2 a3:Nat)(f:Bool)(aa:Option Addr)(ca:Nat)(args:List X)(ap:Option Addr)(plan cp:Nat)(am:Option Addr)(mt cm:Nat)(ag:Option Addr)(gp cg:Nat)(hl1:args.length=1)(hsm:∀a∈args,SizeOf.sizeOf a<m)(d:Nat)(g:Bool)(hok:∀a∈args,okX false d g a=true)(hcalm:∀a∈args,calmX a=true)(w:World)(eb ev:Nat)(ns:List ByteArray)(vs:List V)(hC:EvC w eb ev ns vs)(ha:XS w 1048576 (.slice aa args.length ca) args):
 Calls Tryz.prog 57 #[.pointer (some ⟨eb,0,none⟩),.agg #[.int .i64 op,.string tx,.int .i64 kk,.bool bb,.int .i64 nn,.string t2,.string u2,.slice a1 a2 a3,.bool f,.slice aa args.length ca,.slice ap plan cp,.slice am mt cm,.slice ag gp cg]] w (EvP true w):=by
 have hlt:0<args.length:=by omega
 have hq0:=(Blk.new w #[.int .i64 op,.string tx,.int .i64 kk,.bool bb,.int .i64 nn,.string t2,.string u2,.slice a1 a2 a3,.bool f,.slice aa args.length ca,.slice ap plan cp,.slice am mt cm,.slice ag gp cg] 43).alloc (.cells #[.int .i64 0,.bool false,.int .i64 0,.string ⟨#[]⟩,.string ⟨#[]⟩,.slice none 0 0] 38)
 have hq1:=Blk.new (w.alloc (.cells #[.int .i64 op,.string tx,.int .i64 kk,.bool bb,.int .i64 nn,.string t2,.string u2,.slice a1 a2 a3,.bool f,.slice aa args.length ca,.slice ap plan cp,.slice am mt cm,.slice ag gp cg] 43)) #[.int .i64 0,.bool false,.int .i64 0,.string ⟨#[]⟩,.string ⟨#[]⟩,.slice none 0 0] 38
 rw[World.size_alloc]at hq1
 have hal:Below w.heap.size w ((w.alloc (.cells #[.int .i64 op,.string tx,.int .i64 kk,.bool bb,.int .i64 nn,.string t2,.string u2,.slice a1 a2 a3,.bool f,.slice aa args.length ca,.slice ap plan cp,.slice am mt cm,.slice ag gp cg] 43)).alloc (.cells #[.int .i64 0,.bool false,.int .i64 0,.string ⟨#[]⟩,.string ⟨#[]⟩,.slice none 0 0] 38)):=((Below.refl _ _).alloc (Nat.le_refl _) _).alloc (by rw[World.size_alloc];omega) _
 have hsz:((w.alloc (.cells #[.int .i64 op,.string tx,.int .i64 kk,.bool bb,.int .i64 nn,.string t2,.string u2,.slice a1 a2 a3,.bool f,.slice aa args.length ca,.slice ap plan cp,.slice am mt cm,.slice ag gp cg] 43)).alloc (.cells #[.int .i64 0,.bool false,.int .i64 0,.string ⟨#[]⟩,.string ⟨#[]⟩,.slice none 0 0] 38)).heap.size=w.heap.size+2:=by simp only[World.size_alloc]
 obtain⟨bA,oA,csA,rfl,hrow,hxv⟩:=xs_at ha 0 hlt
 obtain⟨xA,hxA⟩:∃xA,args[0]'hlt=xA:=⟨_,rfl⟩
 have hsA:=hsm _ (List.getElem_mem hlt)
 have hoA:=hok _ (List.getElem_mem hlt)
 have hcA:=hcalm _ (List.getElem_mem hlt)
 rw[hxA]at hxv hsA hoA hcA
 obtain⟨o1,s1,k2,b1,n1,s2,s3,e1,e2,e3,f1,e4,e5,e6,e7,e8,e9,d1,d2,d3,d4,d5,d6,rfl⟩:=hxv.form
 rw[Nat.zero_mul,Nat.add_zero]at hrow
 obtain⟨y0,y1,y2,y3,y4,y5,y6,y7,y8,y9,y10,y11,y12⟩:=(hrow.below hal).all
 have hcall:Calls Tryz.prog 22 #[.pointer (some ⟨eb,0,none⟩),.agg #[.int .i64 o1,.string s1,.int .i64 k2,.bool b1,.int .i64 n1,.string s2,.string s3,.slice e1 e2 e3,.bool f1,.slice e4 e5 e6,.slice e7 e8 e9,.slice d1 d2 d3,.slice d4 d5 d6]] ((w.alloc (.cells #[.int .i64 op,.string tx,.int .i64 kk,.bool bb,.int .i64 nn,.string t2,.string u2,.slice a1 a2 a3,.bool f,.slice (some ⟨bA,oA,none⟩) args.length ca,.slice ap plan cp,.slice am mt cm,.slice ag gp cg] 43)).alloc (.cells #[.int .i64 0,.bool false,.int .i64 0,.string ⟨#[]⟩,.string ⟨#[]⟩,.slice none 0 0] 38)) (EvP (bareX xA) ((w.alloc (.cells #[.int .i64 op,.string tx,.int .i64 kk,.bool bb,.int .i64 nn,.string t2,.string u2,.slice a1 a2 a3,.bool f,.slice (some ⟨bA,oA,none⟩) args.length ca,.slice ap plan cp,.slice am mt cm,.slice ag gp cg] 43)).alloc (.cells #[.int .i64 0,.bool false,.int .i64 0,.string ⟨#[]⟩,.string ⟨#[]⟩,.slice none 0 0] 38))):=
  ih xA hsA d g hoA hcA _ eb ev ns vs (hC.stay hal) _ (hxv.stay hal)
 have x9:=hq0.cell 9 rfl
 have z0:=(hC.stay hal).blk.cell 0 rfl
 have hli:(args.length:Int)=1:=by omega
 replace hq0:=Hd hq0
 replace hq1:=Hd hq1
 replace hal:=Hd hal
 replace hsz:=Hd hsz
 replace hcall:=Hd hcall
 replace hxv:=Hd hxv
 replace hl1:=Hd hl1
 replace hli:=Hd hli
 have hlp:(0:Int)<(args.length:Int):=by have:=hli.out;omega
 clear hrow hoA hcA hsA
 go_enter Tryz.func57,Tryz.ntmps57
 go_wp2_with fail
 refine hcall.out.mono ?_
 rintro e w5 ⟨k,b,n,t,x,ao,cap,l,rfl,hb5,hl5,hok5,hm5,hk5⟩
 unfold agg6
 have hal6:Below w5.heap.size w5 (w5.alloc (.cells #[.int .i64 k,.bool b,.int .i64 n,.string t,.string x,.slice ao l.length cap] 38)):=(Below.refl _ _).alloc (Nat.le_refl _) _
 have hq04:Blk w5 w.heap.size _ _:=(hb5.block _ hq0.out.lt).trans hq0.out
 have hq14:Blk w5 (w.heap.size+1) _ _:=(hb5.block _ hq1.out.lt).trans hq1.out
 have hq05:=hq04.alloc (.cells #[.int .i64 k,.bool b,.int .i64 n,.string t,.string x,.slice ao l.length cap] 38)
 have hq15:=hq14.alloc (.cells #[.int .i64 k,.bool b,.int .i64 n,.string t,.string x,.slice ao l.length cap] 38)
 have hq6:=Blk.new w5 #[.int .i64 k,.bool b,.int .i64 n,.string t,.string x,.slice ao l.length cap] 38
 have hB6:=Hd ((hal.out.trans (hb5.mono hal.out.size)).trans (hal6.mono (hal.out.trans (hb5.mono hal.out.size)).size))
 clear hcall y0 y1 y2 y3 y4 y5 y6 y7 y8 y9 y10 y11 y12 x9 z0
 have u0:=hq6.cell 0 rfl
 have u1:=hq6.cell 1 rfl
 have u2a:=hq6.cell 2 rfl
 have u3:=hq6.cell 3 rfl
 have u4:=hq6.cell 4 rfl
 have u5:=hq6.cell 5 rfl
 have t8:=hq05.cell 8 rfl
 replace hq15:=Hd hq15
 clear hb5 hal6 hq6 hl5 hok5 hm5 hk5 hq05 hq04 hq14
 go_wp2_with fail
 refine(xbool_any _ _).mono ?_
 rintro e w7 ⟨rfl,hb7⟩
 unfold agg6
 have hq17:Blk w7 (w.heap.size+1) #[.int .i64 0,.bool false,.int .i64 0,.string ⟨#[]⟩,.string ⟨#[]⟩,.slice none 0 0] 38:=(hb7.block _ hq15.out.lt).trans hq15.out
 have hB7:=Hd (hB6.out.trans (hb7.mono hB6.out.size))
 clear u0 u1 u2a u3 u4 u5 t8
 have v0:=hq17.cell 0 rfl
 have v1:=hq17.cell 1 rfl
 have v2:=hq17.cell 2 rfl
 have v3:=hq17.cell 3 rfl
 have v4:=hq17.cell 4 rfl
 have v5:=hq17.cell 5 rfl
 have f1:=hq17.free
 replace hq17:=Hd hq17
 clear hb7 hq15
 generalize (!((k==0)==f))=rb
 go_wp2
 have hfin:=Blk.set6 hq17.out (.int .i64 1) (.bool rb) (.int .i64 0) (.string ⟨#[]⟩) (.string ⟨#[]⟩) (.slice none 0 0)
 have hbf:=Below.set6 hB7.out (b:=w.heap.size+1) (Nat.le_succ _) (.int .i64 1) (.bool rb) (.int .i64 0) (.string ⟨#[]⟩) (.string ⟨#[]⟩) (.slice none 0 0)
 exact bodyPost_ret (v:=.tuple #[agg6 1 rb 0 ⟨#[]⟩ ⟨#[]⟩ (.slice none 0 0),.int .i64 0]) (res2 rfl _ _ (w.heap.size+1) 38 _ (0,0) _ _ rfl rfl hfin.eq Tryz.underlying38 rfl infoV6) rfl ⟨1,rb,0,⟨#[]⟩,⟨#[]⟩,none,0,[],rfl,hbf,LF.nil _ _ _,ok_small 1 (by omega) (by omega) rb,bool_may rb,fun _=>.inr rfl⟩
end Go.Proofs.YtcaeipdgbaligaaGreatDoor.ex
