/- Texts XEvB, XGen, one behind the other. -/
import Derived.Test.YtcaeipdgbaligaaGreatDoorXEvA
set_option linter.unusedSimpArgs false
set_option linter.unusedVariables false
set_option maxHeartbeats 8000000
namespace Go.Proofs.YtcaeipdgbaligaaGreatDoor.ex
open Go.ChangeShapes Go.WideShapes Go.ChangeAt Go.RowKit kit dec val tab logic
open hyp (RowA TextsA textsV textsV_length news_one own_row)
set_option maxRecDepth 100000
theorem logical_of(m:Nat)(ih:EvX m)(op:Int)(tx:ByteArray)(kk:Int)(bb:Bool)(nn:Int)(t2 u2:ByteArray)(a1:Option Addr)(a2 a3:Nat)(f:Bool)(aa:Option Addr)(ca:Nat)(args:List X)(ap:Option Addr)(plan cp:Nat)(am:Option Addr)(mt cm:Nat)(ag:Option Addr)(gp cg:Nat)(hop:(op=5∧args.length=1)∨((op=6∨op=7∨op=8)∧args.length=2))(hsm:∀a∈args,SizeOf.sizeOf a<m)(d:Nat)(g:Bool)(hok:∀a∈args,okX false d g a=true)(hcalm:∀a∈args,calmX a=true)(hbare:∀a∈args,bareX a=true)(w:World)(eb ev:Nat)(ns:List ByteArray)(vs:List V)(hC:EvC w eb ev ns vs)(ha:XS w 1048576 (.slice aa args.length ca) args):
 Calls Tryz.prog 56 #[.pointer (some ⟨eb,0,none⟩),.agg #[.int .i64 op,.string tx,.int .i64 kk,.bool bb,.int .i64 nn,.string t2,.string u2,.slice a1 a2 a3,.bool f,.slice aa args.length ca,.slice ap plan cp,.slice am mt cm,.slice ag gp cg]] w (EvP true w):=by
 obtain⟨i0,hi0,hy0,hy1,hy2⟩:=info_parts infoInt
 have hq0:=(Blk.new w #[.int .i64 op,.string tx,.int .i64 kk,.bool bb,.int .i64 nn,.string t2,.string u2,.slice a1 a2 a3,.bool f,.slice aa args.length ca,.slice ap plan cp,.slice am mt cm,.slice ag gp cg] 43).alloc (.cells #[.int .i64 0,.bool false,.int .i64 0,.string ⟨#[]⟩,.string ⟨#[]⟩,.slice none 0 0] 38)
 have hq1:=Blk.new (w.alloc (.cells #[.int .i64 op,.string tx,.int .i64 kk,.bool bb,.int .i64 nn,.string t2,.string u2,.slice a1 a2 a3,.bool f,.slice aa args.length ca,.slice ap plan cp,.slice am mt cm,.slice ag gp cg] 43)) #[.int .i64 0,.bool false,.int .i64 0,.string ⟨#[]⟩,.string ⟨#[]⟩,.slice none 0 0] 38
 rw[World.size_alloc]at hq1
 have hal:Below w.heap.size w ((w.alloc (.cells #[.int .i64 op,.string tx,.int .i64 kk,.bool bb,.int .i64 nn,.string t2,.string u2,.slice a1 a2 a3,.bool f,.slice aa args.length ca,.slice ap plan cp,.slice am mt cm,.slice ag gp cg] 43)).alloc (.cells #[.int .i64 0,.bool false,.int .i64 0,.string ⟨#[]⟩,.string ⟨#[]⟩,.slice none 0 0] 38)):=((Below.refl _ _).alloc (Nat.le_refl _) _).alloc (by rw[World.size_alloc];omega) _
 have hsz:((w.alloc (.cells #[.int .i64 op,.string tx,.int .i64 kk,.bool bb,.int .i64 nn,.string t2,.string u2,.slice a1 a2 a3,.bool f,.slice aa args.length ca,.slice ap plan cp,.slice am mt cm,.slice ag gp cg] 43)).alloc (.cells #[.int .i64 0,.bool false,.int .i64 0,.string ⟨#[]⟩,.string ⟨#[]⟩,.slice none 0 0] 38)).heap.size=w.heap.size+2:=by simp only[World.size_alloc]
 have hcall:=values_of m ih args hsm d g hok hcalm _ eb ev ns vs (hC.stay hal) aa ca (XS.stay hal ha)
 have x9:=hq0.cell 9 rfl
 have z0:=(hC.stay hal).blk.cell 0 rfl
 have hal2:args.length≤2:=by omega
 replace hi0:=Hd hi0
 replace hy0:=Hd hy0
 replace hy1:=Hd hy1
 replace hy2:=Hd hy2
 replace hq0:=Hd hq0
 replace hq1:=Hd hq1
 replace hal:=Hd hal
 replace hsz:=Hd hsz
 replace hcall:=Hd hcall
 replace hop:=Hd hop
 replace hal2:=Hd hal2
 replace hC:=Hd hC
 replace ha:=Hd ha
 go_enter Tryz.func56,Tryz.ntmps56
 go_wp2_with fail
 refine hcall.out.mono ?_
 rintro e w5 ⟨us,ao,cap,rfl,hul,hb5,hla,hfit⟩
 have hq05:Blk w5 w.heap.size _ _:=(hb5.block _ hq0.out.lt).trans hq0.out
 have hq15:Blk w5 (w.heap.size+1) #[.int .i64 0,.bool false,.int .i64 0,.string ⟨#[]⟩,.string ⟨#[]⟩,.slice none 0 0] 38:=(hb5.block _ hq1.out.lt).trans hq1.out
 have hB5:=Hd (hal.out.trans (hb5.mono hal.out.size))
 have hs5:Hid (w.heap.size+2≤w5.heap.size):=Hd (by have:=hb5.size;have:=hsz.out;omega)
 have hC5:=Hd (hC.out.stay hB5.out)
 have hui:(us.length:Int)≤2:=by have:=hal2.out;omega
 replace hq05:=Hd hq05
 replace hq15:=Hd hq15
 replace hla:=Hd hla
 replace hfit:=Hd hfit
 replace hul:=Hd hul
 clear hcall x9 z0 hb5 hq0 hq1 hal hsz hC ha
 go_wp2
 go_loopw [6,82] (fun v6 v wr=>∃(i:Nat) (L:List Int),i≤us.length∧v=.int .i64 (i:Int)∧Hid (L.length=i)∧Hid (wr.ownsRow w5.heap.size 3 1 v6 (L.map (Value.int .i64)).length (L.map (Value.int .i64)))∧Hid (Below w5.heap.size w5 wr)) (fun _ v _=>us.length-(intOf v).toNat)
 case atStart=>exact⟨0,[],by omega,rfl,Hd rfl,Hd (World.ownsRow_nil _ _ _ _),Hd (Below.refl _ _)⟩
 case round=>
  obtain⟨i,L,hi,rfl,hLl,hown,hbr⟩:=hrel
  obtain⟨wq,rfl⟩:∃wq:World,wq=wr:=⟨_,rfl⟩
  by_cases hlt:i<us.length
  ·have hilt:(i:Int)<(us.length:Int):=by omega
   obtain⟨bA,oA,k,b,n,t,x,l,aoE,capE,rfl,he,hr,hok5,hsl⟩:=la_at (hla.out.stay hbr.out) i hlt
   have hlta:i<args.length:=by have:=hul.out;omega
   have hf:=hfit.out i hlt hlta
   rw[he]at hf
   have hk:k=0∨k=1:=hf.2 (hbare _ (List.getElem_mem hlta))
   have hm:=hf.1
   obtain⟨x0,x1,x2,x3,x4,x5⟩:=hr.six
   have hal6:Below wq.heap.size wq (wq.alloc (.cells #[.int .i64 k,.bool b,.int .i64 n,.string t,.string x,.slice aoE l.length capE] 38)):=(Below.refl _ _).alloc (Nat.le_refl _) _
   have hd7:Below wq.heap.size wq (wq.alloc (.cells #[.int .i64 k,.bool b,.int .i64 n,.string t,.string x,.slice aoE l.length capE] 38)).drew:=Below_drewN 1 hal6
   have hS0:Blk (wq.alloc (.cells #[.int .i64 k,.bool b,.int .i64 n,.string t,.string x,.slice aoE l.length capE] 38)).drew eb _ _∧Blk (wq.alloc (.cells #[.int .i64 k,.bool b,.int .i64 n,.string t,.string x,.slice aoE l.length capE] 38)).drew wq.heap.size #[.int .i64 k,.bool b,.int .i64 n,.string t,.string x,.slice aoE l.length capE] 38:=⟨(hC5.out.stay (hbr.out.trans (hd7.mono hbr.out.size))).blk,Blk.new wq #[.int .i64 k,.bool b,.int .i64 n,.string t,.string x,.slice aoE l.length capE] 38⟩
   have hE7:=Hd (hC5.out.stay (hbr.out.trans (hd7.mono hbr.out.size))).env
   have hB7:=Hd (hbr.out.trans (hd7.mono hbr.out.size))
   have hown7:(wq.alloc (.cells #[.int .i64 k,.bool b,.int .i64 n,.string t,.string x,.slice aoE l.length capE] 38)).drew.ownsRow w5.heap.size 3 1 _ (L.map (Value.int .i64)).length (L.map (Value.int .i64)):=own_stay hown.out fun g hg=>hd7.block g (hown.out.lt g hg).2
   have hsl7:=hsl.stay hd7
   replace hown7:=Hd hown7
   clear hr hf he hsl hal6 hd7 hown hbr
   go_upto_region 25 with fail
   clear x0 x1 x2 x3 x4 x5
   refine wp_region_held_drew (S:=fun V=>Blk V eb #[.int .i64 0,.iface 48 (.agg #[.pointer (some ⟨ev,0,none⟩)])] 68∧Blk V wq.heap.size #[.int .i64 k,.bool b,.int .i64 n,.string t,.string x,.slice aoE l.length capE] 38) (by kernel_rfl) hS0 (fun hS=>?_)
   generalize (wq.alloc (.cells #[.int .i64 k,.bool b,.int .i64 n,.string t,.string x,.slice aoE l.length capE] 38)).drew=V0 at *
   have cO:=xof_c V0 hE7.out.env k hk b n t x hok5.2.2.1 hok5.2.2.2 aoE capE l hsl7 hm
   unfold agg6 at cO
   have hof:=ofC_in k b
   generalize ofC k b=r at *
   refine tkS [0,1,2,3,4] ?_
   iterate 5
    refine tkC ?_ rfl (fun w' hS=>?_) hS ?_
    rotate_left
    ·
     have e0:=hS.1.cell 0 rfl;have y0:=hS.2.cell 0 rfl;have y1:=hS.2.cell 1 rfl;have y2:=hS.2.cell 2 rfl;have y3:=hS.2.cell 3 rfl;have y4:=hS.2.cell 4 rfl;have y5:=hS.2.cell 5 rfl
     go_simp
     try with_reducible rfl
   refine rdH 5 rfl (fun K hK=>?_)
   clear hS
   go_simp
   refine(cO).mono ?_
   rintro e w8 ⟨rfl,hb8⟩
   go_wp2_with fail
   refine hKo hK (⟨(hb8.block _ hS0.1.lt).trans hS0.1,(hb8.block _ hS0.2.lt).trans hS0.2⟩) (fun hS=>?_)
   clear hK K
   refine tkS [6,7,8,9,10] ?_
   iterate 5
    refine tkC ?_ rfl (fun w' hS=>?_) hS ?_
    rotate_left
    ·
     skip
     go_simp
     try with_reducible rfl
   refine wpAnyH_done (by kernel_rfl) ?_ _
   clear hS
   have hown8:w8.ownsRow w5.heap.size 3 1 _ (L.map (Value.int .i64)).length (L.map (Value.int .i64)):=own_stay hown7.out fun g hg=>hb8.block g (hown7.out.lt g hg).2
   have hB8:=Hd (hB7.out.trans (hb8.mono hB7.out.size))
   have hownA:(w8.alloc (.cells #[.int .i64 r] 3)).ownsRow w5.heap.size 3 1 _ (L.map (Value.int .i64)).length (L.map (Value.int .i64)):=hown8.alloc _
   have hnw:=news_one w8 (.int .i64 r) 3
   have hLn:(L.map (Value.int .i64)).length≤2:=by rw[List.length_map];have:=hLl.out;have:=hul.out;have:=hal2.out;omega
   replace hnw:=Hd hnw
   replace hownA:=Hd hownA
   replace hLn:=Hd hLn
   clear hown8 hb8 hS0 hown7 hE7 hB7 hsl7 hk hm hok5 hof
   go_wp2_with (at_builtin;refine wpList_append_own _ rfl _ _ 138 rfl w5.heap.size 3 i0 (.int .i64 0) 1 8 Tryz.underlying138 hi0.out hy0.out hy1.out hy2.out rfl (by decide) _ _ _ rfl hownA.out _ 1 _ [.int .i64 r] rfl rfl hnw.out ?la ?lb ?lc ?ld ?le)
   case la=>simp[Value.oneCell']
   case lb=>have:=hLn.out;simp only[maxLen];omega
   case lc=>have:=hLn.out;omega
   case ld=>rw[World.size_alloc];have:=hB8.out.size;omega
   case le=>
    intro v9 w9 h1 h2 _
    have h3:Hid (w9.ownsRow w5.heap.size 3 1 v9 ((L++[r]).map (Value.int .i64)).length ((L++[r]).map (Value.int .i64))):=Hd (by
     have e1:(L++[r]).map (Value.int .i64)=L.map (Value.int .i64)++[.int .i64 r]:=by simp
     rw[e1,List.length_append,List.length_map]
     exact h1)
    have hB9:=Hd (Below.grown (hB8.out.alloc hB8.out.size (.cells #[.int .i64 r] 3)) h2 (by rw[World.size_alloc];have:=hB8.out.size;omega) (fun g hg=>(hownA.out.lt g hg).1))
    have hL2:Hid ((L++[r]).length=i+1):=Hd (by simp[hLl.out])
    clear h1 h2 hownA hnw hB8
    go_wp2
    go_roundw
    case rel=>exact⟨i+1,_,hlt,by go_num,hL2,h3,hB9⟩
    case measure=>simp[intOf];omega
  ·have hilt:¬(i:Int)<(us.length:Int):=by omega
   obtain rfl:i=us.length:=by omega
   obtain⟨a9,c9,rfl⟩:=own_formX hown.out
   have hq06:Blk wq w.heap.size _ _:=(hbr.out.block _ hq05.out.lt).trans hq05.out
   have hq16:Blk wq (w.heap.size+1) #[.int .i64 0,.bool false,.int .i64 0,.string ⟨#[]⟩,.string ⟨#[]⟩,.slice none 0 0] 38:=(hbr.out.block _ hq15.out.lt).trans hq15.out
   have x0:=hq06.cell 0 rfl
   have hRA:=own_row hown.out
   rw[List.length_map]at hRA
   have cJ:=xjunc_any wq op a9 c9 L hRA (by have:=hLl.out;have:=hul.out;rw[show L.length=args.length by omega];exact hop.out)
   have hB6:=Hd (hB5.out.trans (hbr.out.mono hB5.out.size))
   rw[List.length_map]
   replace cJ:=Hd cJ
   replace hq16:=Hd hq16
   clear hq06 hRA hown hbr
   go_wp2_with fail
   refine cJ.out.mono ?_
   rintro e w7 ⟨r,rfl,hr,hb7⟩
   have hq17:Blk w7 (w.heap.size+1) #[.int .i64 0,.bool false,.int .i64 0,.string ⟨#[]⟩,.string ⟨#[]⟩,.slice none 0 0] 38:=(hb7.block _ hq16.out.lt).trans hq16.out
   have hB7:=Hd (hB6.out.trans (hb7.mono hB6.out.size))
   have cB:=Hd (xback_any r hr w7)
   have hkk:Hid (bkK r=0∨bkK r=1):=Hd (by unfold bkK;split;exact .inl rfl;exact .inr rfl)
   have hmm:Hid (mayV (.mk (bkK r) (bkB r) 0 ⟨#[]⟩ ⟨#[]⟩ [])=true):=Hd (by
    rcases hr with rfl|rfl|rfl
    ·exact bool_may _
    ·exact bool_may _
    ·exact null_mayV)
   generalize bkK r=rk at *
   generalize bkB r=rb at *
   clear cJ hb7 x0 hr
   go_wp2_with fail
   refine cB.out.mono ?_
   rintro e w8 ⟨rfl,hb8⟩
   unfold agg6
   have hq18:Blk w8 (w.heap.size+1) #[.int .i64 0,.bool false,.int .i64 0,.string ⟨#[]⟩,.string ⟨#[]⟩,.slice none 0 0] 38:=(hb8.block _ hq17.lt).trans hq17
   have hB8:=Hd (hB7.out.trans (hb8.mono hB7.out.size))
   have v0:=hq18.cell 0 rfl
   have v1:=hq18.cell 1 rfl
   have v2:=hq18.cell 2 rfl
   have v3:=hq18.cell 3 rfl
   have v4:=hq18.cell 4 rfl
   have v5:=hq18.cell 5 rfl
   have f1:=hq18.free
   replace hq18:=Hd hq18
   clear cB hb8 hq17 hq16
   go_wp2
   have hfin:=Blk.set6 hq18.out (.int .i64 rk) (.bool rb) (.int .i64 0) (.string ⟨#[]⟩) (.string ⟨#[]⟩) (.slice none 0 0)
   have hbf:=Below.set6 hB8.out (b:=w.heap.size+1) (Nat.le_succ _) (.int .i64 rk) (.bool rb) (.int .i64 0) (.string ⟨#[]⟩) (.string ⟨#[]⟩) (.slice none 0 0)
   exact bodyPost_ret (v:=.tuple #[agg6 rk rb 0 ⟨#[]⟩ ⟨#[]⟩ (.slice none 0 0),.int .i64 0]) (res2 rfl _ _ (w.heap.size+1) 38 _ (0,0) _ _ rfl rfl hfin.eq Tryz.underlying38 rfl infoV6) rfl ⟨rk,rb,0,⟨#[]⟩,⟨#[]⟩,none,0,[],rfl,hbf,LF.nil _ _ _,ok_small rk (by have:=hkk.out;omega) (by have:=hkk.out;omega) rb,hmm.out,fun _=>hkk.out⟩
end Go.Proofs.YtcaeipdgbaligaaGreatDoor.ex
set_option linter.unusedSimpArgs false
set_option linter.unusedVariables false
set_option maxHeartbeats 8000000
namespace Go.Proofs.YtcaeipdgbaligaaGreatDoor.ex
open Go.ChangeShapes Go.WideShapes Go.ChangeAt Go.RowKit kit dec val tab logic
open hyp (RowA TextsA textsV textsV_length)
set_option maxRecDepth 100000
def EvG(R:V→Prop)(w:World)(e:Ending)(w':World):Prop:=∃k b n t x ao cap l,e=.returned (.tuple #[agg6 k b n t x (.slice ao l.length cap),.int .i64 0])∧Below w.heap.size w w'∧LF w' 1048576 (Fr w.heap.size w') (.slice ao l.length cap) l∧okV 1048576 (.mk k b n t x l)∧R (.mk k b n t x l)
def EvE(er:Int)(w:World)(e:Ending)(w':World):Prop:=∃k b n t x ao m cap,e=.returned (.tuple #[agg6 k b n t x (.slice ao m cap),.int .i64 er])∧Below w.heap.size w w'
def VsG(args:List X)(R:Nat→V→Prop)(je:Nat)(er:Int)(w:World)(e:Ending)(w':World):Prop:=
 (je<args.length∧e=.returned (.tuple #[.slice none 0 0,.int .i64 er])∧Below w.heap.size w w') ∨
 (args.length≤je∧∃us ao cap,e=.returned (.tuple #[.slice ao us.length cap,.int .i64 0])∧us.length=args.length∧Below w.heap.size w w'∧LA w' 1048576 (.slice ao us.length cap) us∧∀j (h:j<us.length),R j us[j])
theorem values_gen(args:List X)(R:Nat→V→Prop)(je:Nat)(er:Int)(her:er≠0)(w:World)(eb:Nat)(aa:Option Addr)(ca:Nat)(ha:XS w 1048576 (.slice aa args.length ca) args)
 (cA:∀j (hj:j<args.length),j<je→∀W v,Below w.heap.size w W→XV W 1048576 v args[j]→Calls Tryz.prog 22 #[.pointer (some ⟨eb,0,none⟩),v] W (EvG (R j) W))
 (cE:∀(hj:je<args.length) W v,Below w.heap.size w W→XV W 1048576 v args[je]→Calls Tryz.prog 22 #[.pointer (some ⟨eb,0,none⟩),v] W (EvE er W)):
 Calls Tryz.prog 37 #[.pointer (some ⟨eb,0,none⟩),.slice aa args.length ca] w (VsG args R je er w):=by
 obtain⟨_,_,_,hxl⟩:=xs_form ha
 have hxi:(args.length:Int)≤1048576:=by omega
 have hern:(er==0)=false:=beq_eq_false_iff_ne.2 her
 replace hern:=Hd hern
 replace ha:=Hd ha
 replace cA:=Hd cA
 replace cE:=Hd cE
 go_enter Tryz.func37,Tryz.ntmps37
 go_wp2
 go_loopw [6,13] (fun v6 v wr=>∃(i:Nat) (us:List V),i≤args.length∧v=.int .i64 (i:Int)∧us.length=i∧i≤je∧Hid (LF wr 1048576 (Fr w.heap.size wr) v6 us)∧Hid (Below w.heap.size w wr)∧Hid (∀j (h:j<us.length),R j us[j])) (fun _ v _=>args.length-(intOf v).toNat)
 case atStart=>exact⟨0,[],by omega,rfl,rfl,Nat.zero_le _,Hd (LF.nil _ _ _),Hd (Below.refl _ _),Hd (fun j h=>by simp at h)⟩
 case round =>
  obtain⟨i,us,hi,rfl,hul,hije,hlf,hbr,hinv⟩:=hrel
  obtain⟨wq,rfl⟩:∃wq:World,wq=wr:=⟨_,rfl⟩
  replace hul:=Hd hul
  replace hije:=Hd hije
  by_cases hlt:i<args.length
  ·have hilt:(i:Int)<(args.length:Int):=by omega
   obtain⟨bA,oA,csA,rfl,hrow,hxv⟩:=xs_at ha.out i hlt
   obtain⟨xA,hxA⟩:∃xA,args[i]'hlt=xA:=⟨_,rfl⟩
   rw[hxA]at hxv
   replace hxA:=Hd hxA
   obtain⟨o1,s1,k2,b1,n1,s2,s3,e1,e2,e3,f1,e4,e5,e6,e7,e8,e9,d1,d2,d3,d4,d5,d6,rfl⟩:=hxv.form
   obtain⟨y0,y1,y2,y3,y4,y5,y6,y7,y8,y9,y10,y11,y12⟩:=(hrow.below hbr.out).all
   have hbA:=hbr.out.alloc hbr.out.size (.cells #[.int .i64 o1,.string s1,.int .i64 k2,.bool b1,.int .i64 n1,.string s2,.string s3,.slice e1 e2 e3,.bool f1,.slice e4 e5 e6,.slice e7 e8 e9,.slice d1 d2 d3,.slice d4 d5 d6] 43)
   have hnA:=Blk.new wq #[.int .i64 o1,.string s1,.int .i64 k2,.bool b1,.int .i64 n1,.string s2,.string s3,.slice e1 e2 e3,.bool f1,.slice e4 e5 e6,.slice e7 e8 e9,.slice d1 d2 d3,.slice d4 d5 d6] 43
   have hal:Below wq.heap.size wq (wq.alloc (.cells #[.int .i64 o1,.string s1,.int .i64 k2,.bool b1,.int .i64 n1,.string s2,.string s3,.slice e1 e2 e3,.bool f1,.slice e4 e5 e6,.slice e7 e8 e9,.slice d1 d2 d3,.slice d4 d5 d6] 43)):=(Below.refl _ _).alloc (Nat.le_refl _) _
   have hxvA:=hxv.stay hbA
   have hlfA:LF (wq.alloc (.cells #[.int .i64 o1,.string s1,.int .i64 k2,.bool b1,.int .i64 n1,.string s2,.string s3,.slice e1 e2 e3,.bool f1,.slice e4 e5 e6,.slice e7 e8 e9,.slice d1 d2 d3,.slice d4 d5 d6] 43)) 1048576 (Fr w.heap.size (wq.alloc (.cells #[.int .i64 o1,.string s1,.int .i64 k2,.bool b1,.int .i64 n1,.string s2,.string s3,.slice e1 e2 e3,.bool f1,.slice e4 e5 e6,.slice e7 e8 e9,.slice d1 d2 d3,.slice d4 d5 d6] 43))) _ us:=hlf.out.after hal
   have t0:=hnA.cell 0 rfl
   have t1:=hnA.cell 1 rfl
   have t2a:=hnA.cell 2 rfl
   have t3:=hnA.cell 3 rfl
   have t4:=hnA.cell 4 rfl
   have t5:=hnA.cell 5 rfl
   have t6:=hnA.cell 6 rfl
   have t7:=hnA.cell 7 rfl
   have t8:=hnA.cell 8 rfl
   have t9:=hnA.cell 9 rfl
   have t10:=hnA.cell 10 rfl
   have t11:=hnA.cell 11 rfl
   have t12:=hnA.cell 12 rfl
   replace hbA:=Hd hbA
   replace hlfA:=Hd hlfA
   replace hxv:=Hd hxv
   clear hrow hbr hnA hlf hal
   by_cases hje:i=je
   ·subst hje
    have hcall:Calls Tryz.prog 22 #[.pointer (some ⟨eb,0,none⟩),.agg #[.int .i64 o1,.string s1,.int .i64 k2,.bool b1,.int .i64 n1,.string s2,.string s3,.slice e1 e2 e3,.bool f1,.slice e4 e5 e6,.slice e7 e8 e9,.slice d1 d2 d3,.slice d4 d5 d6]] (wq.alloc (.cells #[.int .i64 o1,.string s1,.int .i64 k2,.bool b1,.int .i64 n1,.string s2,.string s3,.slice e1 e2 e3,.bool f1,.slice e4 e5 e6,.slice e7 e8 e9,.slice d1 d2 d3,.slice d4 d5 d6] 43)) (EvE er (wq.alloc (.cells #[.int .i64 o1,.string s1,.int .i64 k2,.bool b1,.int .i64 n1,.string s2,.string s3,.slice e1 e2 e3,.bool f1,.slice e4 e5 e6,.slice e7 e8 e9,.slice d1 d2 d3,.slice d4 d5 d6] 43))):=
     cE.out hlt _ _ hbA.out (by rw[hxA.out];exact hxvA)
    replace hcall:=Hd hcall
    replace hxvA:=Hd hxvA
    have hern2:=hern.out
    go_wp2_with fail
    refine hcall.out.mono ?_
    rintro e w5 ⟨k,b,n,t,x,ao,m,cap,rfl,hb5⟩
    unfold agg6
    clear hcall y0 y1 y2 y3 y4 y5 y6 y7 y8 y9 y10 y11 y12
    clear t0 t1 t2a t3 t4 t5 t6 t7 t8 t9 t10 t11 t12
    have hb6:=hbA.out.trans (hb5.mono hbA.out.size)
    have hb7:=Hd (hb6.alloc hb6.size (.cells #[.int .i64 k,.bool b,.int .i64 n,.string t,.string x,.slice ao m cap] 38))
    clear hb5 hb6
    go_wp2
    go_ret2
    exact .inl ⟨hlt,rfl,hb7.out⟩
   have hji:i<je:=by have:=hije.out;omega
   have hcall:Calls Tryz.prog 22 #[.pointer (some ⟨eb,0,none⟩),.agg #[.int .i64 o1,.string s1,.int .i64 k2,.bool b1,.int .i64 n1,.string s2,.string s3,.slice e1 e2 e3,.bool f1,.slice e4 e5 e6,.slice e7 e8 e9,.slice d1 d2 d3,.slice d4 d5 d6]] (wq.alloc (.cells #[.int .i64 o1,.string s1,.int .i64 k2,.bool b1,.int .i64 n1,.string s2,.string s3,.slice e1 e2 e3,.bool f1,.slice e4 e5 e6,.slice e7 e8 e9,.slice d1 d2 d3,.slice d4 d5 d6] 43)) (EvG (R i) (wq.alloc (.cells #[.int .i64 o1,.string s1,.int .i64 k2,.bool b1,.int .i64 n1,.string s2,.string s3,.slice e1 e2 e3,.bool f1,.slice e4 e5 e6,.slice e7 e8 e9,.slice d1 d2 d3,.slice d4 d5 d6] 43))):=
    cA.out i hlt hji _ _ hbA.out (by rw[hxA.out];exact hxvA)
   replace hcall:=Hd hcall
   replace hxvA:=Hd hxvA
   go_wp2_with fail
   refine hcall.out.mono ?_
   rintro e w5 ⟨k,b,n,t,x,ao,cap,l,rfl,hb5,hl5,hok5,hm5⟩
   clear hcall y0 y1 y2 y3 y4 y5 y6 y7 y8 y9 y10 y11 y12
   clear t0 t1 t2a t3 t4 t5 t6 t7 t8 t9 t10 t11 t12
   have hb6:=hbA.out.trans (hb5.mono hbA.out.size)
   have hlf5:LF w5 1048576 (Fr w.heap.size (wq.alloc (.cells #[.int .i64 o1,.string s1,.int .i64 k2,.bool b1,.int .i64 n1,.string s2,.string s3,.slice e1 e2 e3,.bool f1,.slice e4 e5 e6,.slice e7 e8 e9,.slice d1 d2 d3,.slice d4 d5 d6] 43))) _ us:=hlfA.out.stay fun b hS hlt=>hb5.block b hlt
   have hal6:Below w5.heap.size w5 (w5.alloc (.cells #[.int .i64 k,.bool b,.int .i64 n,.string t,.string x,.slice ao l.length cap] 38)):=(Below.refl _ _).alloc (Nat.le_refl _) _
   have hlf6:=hlf5.stay fun b hS hlt=>hal6.block b hlt
   have hl6:=hl5.stay fun b hS hlt=>hal6.block b hlt
   have hb7:=hb6.trans (hal6.mono hb6.size)
   have hq6:=Blk.new w5 #[.int .i64 k,.bool b,.int .i64 n,.string t,.string x,.slice ao l.length cap] 38
   have hs5:=hb5.size
   have hs6:(w5.alloc (.cells #[.int .i64 k,.bool b,.int .i64 n,.string t,.string x,.slice ao l.length cap] 38)).heap.size=w5.heap.size+1:=World.size_alloc _ _
   have u0:=hq6.cell 0 rfl
   have u1:=hq6.cell 1 rfl
   have u2:=hq6.cell 2 rfl
   have u3:=hq6.cell 3 rfl
   have u4:=hq6.cell 4 rfl
   have u5:=hq6.cell 5 rfl
   obtain⟨W6,hW6⟩:∃W6,w5.alloc (.cells #[.int .i64 k,.bool b,.int .i64 n,.string t,.string x,.slice ao l.length cap] 38)=W6:=⟨_,rfl⟩
   rw[hW6]at hlf6 hl6 hb7 u0 u1 u2 u3 u4 u5 hs6
   obtain⟨q,hq⟩:∃q,(wq.alloc (.cells #[.int .i64 o1,.string s1,.int .i64 k2,.bool b1,.int .i64 n1,.string s2,.string s3,.slice e1 e2 e3,.bool f1,.slice e4 e5 e6,.slice e7 e8 e9,.slice d1 d2 d3,.slice d4 d5 d6] 43)).heap.size=q:=⟨_,rfl⟩
   have hqw:w.heap.size≤q:=by rw[←hq];exact hbA.out.size
   rw[hq]at hs5 hl6
   have hlf6':LF W6 1048576 (fun b=>w.heap.size≤b∧b<q) _ us:=hlf6.mono fun b hb=>⟨hb.1,by rw[←hq];exact hb.2⟩
   replace hlf6:=Hd ((hlf6'.stay (w':=W6.alloc (.cells (six (.mk k b n t x l) (.slice ao l.length cap)).toArray 38)) fun b hS hlt=>Below.heap_alloc _ _ b hlt))
   replace hl6:=Hd (hl6.stay (w':=W6.alloc (.cells (six (.mk k b n t x l) (.slice ao l.length cap)).toArray 38)) fun b hS hlt=>Below.heap_alloc _ _ b hlt)
   have hnw:=Hd (news_six W6 (.mk k b n t x l) (.slice ao l.length cap) 38)
   replace hW6:=Hd hW6
   replace hq:=Hd hq
   replace hb7:=Hd hb7
   replace hok5:=Hd hok5
   replace hm5:=Hd hm5
   replace hs6:=Hd hs6
   replace hs5:=Hd hs5
   replace hqw:=Hd hqw
   clear hb5 hl5 hlfA hbA hb6 hal6 hlf5 hlf6' hq6
   unfold agg6
   go_upto_region 8 with fail
   rw[show w5.alloc (.cells #[.int .i64 k,.bool b,.int .i64 n,.string t,.string x,.slice ao l.length cap] 38)=W6 from hW6.out]
   go_wp2_with (at_builtin;refine wpList_push rfl _ _ rfl 1048576 (by omega) (fun b=>w.heap.size≤b∧b<q) _ us rfl hlf6.out ?c2 _ 1 1 [(.mk k b n t x l,.slice ao l.length cap)] (fun j b=>j=0∧(q≤b∧b<w5.heap.size)) rfl rfl hnw.out ?c3 ?c4 ?c5 ?c6 ?c7 ?c8)
   case c2=>intro b hb;have:=hb.2;have:=hs6.out;have:=hs5.out;rw[World.size_alloc];omega
   case c3=>exact one_child (hl6.out.mono fun b hb=>⟨hb.1,hb.2⟩)
   case c4=>rintro j b ⟨_,hb⟩;exact⟨by rw[World.size_alloc];have:=hb.2;have:=hs6.out;omega,fun h=>by have:=h.2;have:=hb.1;omega⟩
   case c5=>rintro i j b ⟨hi,_⟩ ⟨hj,_⟩;omega
   case c6=>exact one_ok hok5.out
   case c7=>rw[List.length_singleton];have:=hul.out;omega
   case c8=>
    intro v' w' hlf' hg hvS
    have hsz':=hg.size
    rw[World.size_alloc]at hsz'
    have hlf3:=Hd (hlf'.mono (S':=Fr w.heap.size w') (by
     have h6:=hs6.out
     have h5:=hs5.out
     have h7:=hqw.out
     rintro b (hb|hb|hb)
     ·exact⟨hb.1,by have:=hb.2;omega⟩
     ·exact⟨by have:=hb.1;omega,by have:=hb.2;omega⟩
     ·exact⟨by have:=hb.1;omega,hb.2⟩))
    have hb8:=Hd (Below.grown (hb7.out.alloc hb7.out.size (.cells (six (.mk k b n t x l) (.slice ao l.length cap)).toArray 38)) hg (by rw[World.size_alloc];have:=hb7.out.size;omega) (fun g hgk=>(hvS g hgk).1))
    have hinv2:Hid (∀j (h:j<(us++[V.mk k b n t x l]).length),R j (us++[V.mk k b n t x l])[j]):=Hd (by
     intro j h
     have hu:=hul.out
     by_cases hj:j<us.length
     ·rw[List.getElem_append_left hj]
      exact hinv.out j hj
     ·have:j=i:=by simp at h;omega
      subst this
      rw[List.getElem_append_right (by omega)]
      simp only[hu,Nat.sub_self,List.getElem_cons_zero]
      exact hm5.out)
    have hul2:(us++[V.mk k b n t x l]).length=i+1:=by simp[hul.out]
    clear hlf' hg hvS hlf6 hl6 hnw hb7 hinv u0 u1 u2 u3 u4 u5
    go_wp2
    go_roundw
    case rel=>exact⟨i+1,_,hlt,by go_num,hul2,hji,hlf3,hb8,hinv2⟩
    case measure=>simp[intOf];omega
  ·have hilt:¬(i:Int)<(args.length:Int):=by omega
   obtain rfl:i=args.length:=by omega
   obtain⟨ao3,cap3,rfl,_⟩:=hlf.out.form
   go_wp2
   go_ret2
   exact .inr ⟨hije.out,us,ao3,cap3,rfl,hul.out,hbr.out,hlf.out.toLA,hinv.out⟩
end Go.Proofs.YtcaeipdgbaligaaGreatDoor.ex
