/- Texts XWkD, XVars, one behind the other. -/
import Derived.Test.YtcaeipdgbaligaaGreatDoorXWkC
set_option linter.unusedSimpArgs false
set_option linter.unusedVariables false
set_option maxHeartbeats 8000000
namespace Go.Proofs.YtcaeipdgbaligaaGreatDoor.ex
open Go.ChangeShapes Go.WideShapes Go.ChangeAt Go.RowKit kit dec val tab logic
open hyp (RowA TextsA textsV textsV_length news_one own_row)
set_option maxRecDepth 100000
def OkG(R:V→Prop)(w:World)(e:Ending)(w':World):Prop:=∃k b n t x ao cap l,e=.returned (.tuple #[agg6 k b n t x (.slice ao l.length cap),.int .i64 0])∧Below w.heap.size w w'∧R (.mk k b n t x l)
theorem xeval_G(w:World)(hE:EnvD w)(lang:Int)(v:Value)(x:X)(hv:XV w 1048576 v x)(ev:Nat)(R:V→Prop)(hmay:mayX (decide (lang=1)) x=true)(hagg:aggX x=false)
 (cV:∀W eb,Below w.heap.size w W→Blk W eb #[.int .i64 (sI (decide (lang=1))),(.iface 48 (.agg #[.pointer (some ⟨ev,0,none⟩)]))] 68→Calls Tryz.prog 22 #[.pointer (some ⟨eb,0,none⟩),v] W (EvG R W)):
 Calls Tryz.prog 8 #[.int .i64 lang,v,(.iface 48 (.agg #[.pointer (some ⟨ev,0,none⟩)]))] w (OkG R w):=by
 have hag:∃cs,v=.agg cs:=by cases hv;exact⟨_,rfl⟩
 obtain⟨cs,rfl⟩:=hag
 obtain⟨o1,s1,k2,b1,n1,s2,s3,e1,e2,e3,f1,e4,e5,e6,e7,e8,e9,d1,d2,d3,d4,d5,d6,rfl⟩:=hv.form
 have hok:okX (decide (lang=1)) 1 false x=true:=by
  unfold mayX at hmay
  rw[Bool.and_eq_true]at hmay
  exact hmay.1
 have hl2:(if lang=1 then(1:Int) else 0)=sI (decide (lang=1)):=by
  by_cases h:lang=1<;>simp[h,sI]
 have cL:=fun W=>xlang_any W lang
 rw[hl2]at cL
 have cC:=fun W (h:Below w.heap.size w W)=>xcheck_any W (hE.below h).env lang _ x (hv.stay h)
 rw[hmay]at cC
 have cH:=fun W (h:Below w.heap.size w W)=>xhasagg_any W _ x (hv.stay h) _ hok
 rw[hagg]at cH
 generalize sI (decide (lang=1))=lg at *
 have hn:=fun W=>not_nilE W 48 (.agg #[.pointer (some ⟨ev,0,none⟩)])
 unfold c13 at cC cH cV ⊢
 have hq0:=(Blk.new w #[.int .i64 o1,.string s1,.int .i64 k2,.bool b1,.int .i64 n1,.string s2,.string s3,.slice e1 e2 e3,.bool f1,.slice e4 e5 e6,.slice e7 e8 e9,.slice d1 d2 d3,.slice d4 d5 d6] 43).alloc (.cells #[.int .i64 0,.bool false,.int .i64 0,.string ⟨#[]⟩,.string ⟨#[]⟩,.slice none 0 0] 38)
 have hq1:=Blk.new (w.alloc (.cells #[.int .i64 o1,.string s1,.int .i64 k2,.bool b1,.int .i64 n1,.string s2,.string s3,.slice e1 e2 e3,.bool f1,.slice e4 e5 e6,.slice e7 e8 e9,.slice d1 d2 d3,.slice d4 d5 d6] 43)) #[.int .i64 0,.bool false,.int .i64 0,.string ⟨#[]⟩,.string ⟨#[]⟩,.slice none 0 0] 38
 rw[World.size_alloc]at hq1
 have hal:Below w.heap.size w ((w.alloc (.cells #[.int .i64 o1,.string s1,.int .i64 k2,.bool b1,.int .i64 n1,.string s2,.string s3,.slice e1 e2 e3,.bool f1,.slice e4 e5 e6,.slice e7 e8 e9,.slice d1 d2 d3,.slice d4 d5 d6] 43)).alloc (.cells #[.int .i64 0,.bool false,.int .i64 0,.string ⟨#[]⟩,.string ⟨#[]⟩,.slice none 0 0] 38)):=((Below.refl _ _).alloc (Nat.le_refl _) _).alloc (by rw[World.size_alloc];omega) _
 have cC1:=Hd (cC _ hal)
 have t0:=hq0.cell 0 rfl
 have t1:=hq0.cell 1 rfl
 have t2a:=hq0.cell 2 rfl
 have t3:=hq0.cell 3 rfl
 have t4:=hq0.cell 4 rfl
 have t5:=hq0.cell 5 rfl
 have t6:=hq0.cell 6 rfl
 have t7:=hq0.cell 7 rfl
 have t8:=hq0.cell 8 rfl
 have t9:=hq0.cell 9 rfl
 have t10:=hq0.cell 10 rfl
 have t11:=hq0.cell 11 rfl
 have t12:=hq0.cell 12 rfl
 replace hq0:=Hd hq0
 replace hq1:=Hd hq1
 replace hal:=Hd hal
 replace cL:=Hd cL
 replace cH:=Hd cH
 replace cV:=Hd cV
 replace hl2:=Hd hl2
 replace hok:=Hd hok
 replace hmay:=Hd hmay
 replace hagg:=Hd hagg
 replace hv:=Hd hv
 clear cC
 go_enter Tryz.func8,Tryz.ntmps8
 go_wp2_with fail
 refine cC1.out.mono ?_
 rintro e w2 ⟨rfl,hb2⟩
 clear t0 t1 t2a t3 t4 t5 t6 t7 t8 t9 t10 t11 t12
 have hq02:Blk w2 w.heap.size #[.int .i64 o1,.string s1,.int .i64 k2,.bool b1,.int .i64 n1,.string s2,.string s3,.slice e1 e2 e3,.bool f1,.slice e4 e5 e6,.slice e7 e8 e9,.slice d1 d2 d3,.slice d4 d5 d6] 43:=(hb2.block _ hq0.out.lt).trans hq0.out
 have hq12:Hid (Blk w2 (w.heap.size+1) #[.int .i64 0,.bool false,.int .i64 0,.string ⟨#[]⟩,.string ⟨#[]⟩,.slice none 0 0] 38):=Hd ((hb2.block _ hq1.out.lt).trans hq1.out)
 have hB2:=Hd (hal.out.trans (hb2.mono hal.out.size))
 have cH2:=Hd (cH.out _ hB2.out)
 have t0:=hq02.cell 0 rfl
 have t1:=hq02.cell 1 rfl
 have t2a:=hq02.cell 2 rfl
 have t3:=hq02.cell 3 rfl
 have t4:=hq02.cell 4 rfl
 have t5:=hq02.cell 5 rfl
 have t6:=hq02.cell 6 rfl
 have t7:=hq02.cell 7 rfl
 have t8:=hq02.cell 8 rfl
 have t9:=hq02.cell 9 rfl
 have t10:=hq02.cell 10 rfl
 have t11:=hq02.cell 11 rfl
 have t12:=hq02.cell 12 rfl
 replace hq02:=Hd hq02
 clear cC1 hb2 hq0 hq1 hal cH
 go_wp2_with fail
 refine cH2.out.mono ?_
 rintro e w3 ⟨rfl,hb3⟩
 clear t0 t1 t2a t3 t4 t5 t6 t7 t8 t9 t10 t11 t12
 have hq03:Hid (Blk w3 w.heap.size #[.int .i64 o1,.string s1,.int .i64 k2,.bool b1,.int .i64 n1,.string s2,.string s3,.slice e1 e2 e3,.bool f1,.slice e4 e5 e6,.slice e7 e8 e9,.slice d1 d2 d3,.slice d4 d5 d6] 43):=Hd ((hb3.block _ hq02.out.lt).trans hq02.out)
 have hq13:Hid (Blk w3 (w.heap.size+1) #[.int .i64 0,.bool false,.int .i64 0,.string ⟨#[]⟩,.string ⟨#[]⟩,.slice none 0 0] 38):=Hd ((hb3.block _ hq12.out.lt).trans hq12.out)
 have hB3:=Hd (hB2.out.trans (hb3.mono hB2.out.size))
 clear cH2 hb3 hq02 hq12 hB2
 go_wp2_with fail
 refine(cL.out _).mono ?_
 rintro e w4 ⟨rfl,rfl⟩
 have hal4:Below w4.heap.size w4 (w4.alloc (.cells #[.int .i64 lg,(.iface 48 (.agg #[.pointer (some ⟨ev,0,none⟩)]))] 68)):=(Below.refl _ _).alloc (Nat.le_refl _) _
 have hB4:=hB3.out.trans (hal4.mono hB3.out.size)
 have hq04:=hq03.out.alloc (.cells #[.int .i64 lg,(.iface 48 (.agg #[.pointer (some ⟨ev,0,none⟩)]))] 68)
 have hq14:=hq13.out.alloc (.cells #[.int .i64 lg,(.iface 48 (.agg #[.pointer (some ⟨ev,0,none⟩)]))] 68)
 have cV4:=Hd (cV.out _ w4.heap.size hB4 (Blk.new w4 #[.int .i64 lg,(.iface 48 (.agg #[.pointer (some ⟨ev,0,none⟩)]))] 68))
 have t0:=hq04.cell 0 rfl
 have t1:=hq04.cell 1 rfl
 have t2a:=hq04.cell 2 rfl
 have t3:=hq04.cell 3 rfl
 have t4:=hq04.cell 4 rfl
 have t5:=hq04.cell 5 rfl
 have t6:=hq04.cell 6 rfl
 have t7:=hq04.cell 7 rfl
 have t8:=hq04.cell 8 rfl
 have t9:=hq04.cell 9 rfl
 have t10:=hq04.cell 10 rfl
 have t11:=hq04.cell 11 rfl
 have t12:=hq04.cell 12 rfl
 replace hq14:=Hd hq14
 replace hB4:=Hd hB4
 clear cV cL hal4 hq03 hq13 hB3 hq04
 go_wp2_with fail
 refine cV4.out.mono ?_
 rintro e w5 ⟨k,b,n,t,x,ao,cap,l,rfl,hb5,hl5,hok5,hm5⟩
 unfold agg6
 replace hm5:=Hd hm5
 clear hl5 hok5
 have hal6:Below w5.heap.size w5 (w5.alloc (.cells #[.int .i64 k,.bool b,.int .i64 n,.string t,.string x,.slice ao l.length cap] 38)):=(Below.refl _ _).alloc (Nat.le_refl _) _
 have hq15:Blk w5 (w.heap.size+1) #[.int .i64 0,.bool false,.int .i64 0,.string ⟨#[]⟩,.string ⟨#[]⟩,.slice none 0 0] 38:=(hb5.block _ hq14.out.lt).trans hq14.out
 have hq16:=hq15.alloc (.cells #[.int .i64 k,.bool b,.int .i64 n,.string t,.string x,.slice ao l.length cap] 38)
 have hq6:=Blk.new w5 #[.int .i64 k,.bool b,.int .i64 n,.string t,.string x,.slice ao l.length cap] 38
 have hB5:=hB4.out.trans (hb5.mono hB4.out.size)
 have hB6:=hB5.trans (hal6.mono hB5.size)
 clear t0 t1 t2a t3 t4 t5 t6 t7 t8 t9 t10 t11 t12
 have u0:=hq6.cell 0 rfl
 have u1:=hq6.cell 1 rfl
 have u2a:=hq6.cell 2 rfl
 have u3:=hq6.cell 3 rfl
 have u4:=hq6.cell 4 rfl
 have u5:=hq6.cell 5 rfl
 have v0:=hq16.cell 0 rfl
 have v1:=hq16.cell 1 rfl
 have v2:=hq16.cell 2 rfl
 have v3:=hq16.cell 3 rfl
 have v4:=hq16.cell 4 rfl
 have v5:=hq16.cell 5 rfl
 have f1:=hq16.free
 replace hq16:=Hd hq16
 replace hB6:=Hd hB6
 clear cV4 hb5 hal6 hq15 hq6 hB5 hq14 hB4
 go_wp2
 have hfin:=Blk.set6 hq16.out (.int .i64 k) (.bool b) (.int .i64 n) (.string t) (.string x) (.slice ao l.length cap)
 have hbf:=Below.set6 hB6.out (b:=w.heap.size+1) (Nat.le_succ _) (.int .i64 k) (.bool b) (.int .i64 n) (.string t) (.string x) (.slice ao l.length cap)
 exact bodyPost_ret (v:=.tuple #[agg6 k b n t x (.slice ao l.length cap),.int .i64 0]) (res2 rfl _ _ (w.heap.size+1) 38 _ (0,0) _ _ rfl rfl hfin.eq Tryz.underlying38 rfl infoV6) rfl ⟨k,b,n,t,x,ao,cap,l,rfl,hbf,hm5.out⟩
theorem xeval_E(w:World)(hE:EnvD w)(lang:Int)(v:Value)(x:X)(hv:XV w 1048576 v x)(ev:Nat)(er:Int)(her:er≠0)(hmay:mayX (decide (lang=1)) x=true)(hagg:aggX x=false)
 (cV:∀W eb,Below w.heap.size w W→Blk W eb #[.int .i64 (sI (decide (lang=1))),(.iface 48 (.agg #[.pointer (some ⟨ev,0,none⟩)]))] 68→Calls Tryz.prog 22 #[.pointer (some ⟨eb,0,none⟩),v] W (EvE er W)):
 Calls Tryz.prog 8 #[.int .i64 lang,v,(.iface 48 (.agg #[.pointer (some ⟨ev,0,none⟩)]))] w (fun e w'=>e=.returned (.tuple #[.agg #[.int .i64 0,.bool false,.int .i64 0,.string ⟨#[]⟩,.string ⟨#[]⟩,.slice none 0 0],.int .i64 er])∧Below w.heap.size w w'):=by
 have hag:∃cs,v=.agg cs:=by cases hv;exact⟨_,rfl⟩
 obtain⟨cs,rfl⟩:=hag
 obtain⟨o1,s1,k2,b1,n1,s2,s3,e1,e2,e3,f1,e4,e5,e6,e7,e8,e9,d1,d2,d3,d4,d5,d6,rfl⟩:=hv.form
 have hok:okX (decide (lang=1)) 1 false x=true:=by
  unfold mayX at hmay
  rw[Bool.and_eq_true]at hmay
  exact hmay.1
 have hl2:(if lang=1 then(1:Int) else 0)=sI (decide (lang=1)):=by
  by_cases h:lang=1<;>simp[h,sI]
 have cL:=fun W=>xlang_any W lang
 rw[hl2]at cL
 have cC:=fun W (h:Below w.heap.size w W)=>xcheck_any W (hE.below h).env lang _ x (hv.stay h)
 rw[hmay]at cC
 have cH:=fun W (h:Below w.heap.size w W)=>xhasagg_any W _ x (hv.stay h) _ hok
 rw[hagg]at cH
 generalize sI (decide (lang=1))=lg at *
 have hn:=fun W=>not_nilE W 48 (.agg #[.pointer (some ⟨ev,0,none⟩)])
 unfold c13 at cC cH cV ⊢
 have hq0:=(Blk.new w #[.int .i64 o1,.string s1,.int .i64 k2,.bool b1,.int .i64 n1,.string s2,.string s3,.slice e1 e2 e3,.bool f1,.slice e4 e5 e6,.slice e7 e8 e9,.slice d1 d2 d3,.slice d4 d5 d6] 43).alloc (.cells #[.int .i64 0,.bool false,.int .i64 0,.string ⟨#[]⟩,.string ⟨#[]⟩,.slice none 0 0] 38)
 have hq1:=Blk.new (w.alloc (.cells #[.int .i64 o1,.string s1,.int .i64 k2,.bool b1,.int .i64 n1,.string s2,.string s3,.slice e1 e2 e3,.bool f1,.slice e4 e5 e6,.slice e7 e8 e9,.slice d1 d2 d3,.slice d4 d5 d6] 43)) #[.int .i64 0,.bool false,.int .i64 0,.string ⟨#[]⟩,.string ⟨#[]⟩,.slice none 0 0] 38
 rw[World.size_alloc]at hq1
 have hal:Below w.heap.size w ((w.alloc (.cells #[.int .i64 o1,.string s1,.int .i64 k2,.bool b1,.int .i64 n1,.string s2,.string s3,.slice e1 e2 e3,.bool f1,.slice e4 e5 e6,.slice e7 e8 e9,.slice d1 d2 d3,.slice d4 d5 d6] 43)).alloc (.cells #[.int .i64 0,.bool false,.int .i64 0,.string ⟨#[]⟩,.string ⟨#[]⟩,.slice none 0 0] 38)):=((Below.refl _ _).alloc (Nat.le_refl _) _).alloc (by rw[World.size_alloc];omega) _
 have cC1:=Hd (cC _ hal)
 have t0:=hq0.cell 0 rfl
 have t1:=hq0.cell 1 rfl
 have t2a:=hq0.cell 2 rfl
 have t3:=hq0.cell 3 rfl
 have t4:=hq0.cell 4 rfl
 have t5:=hq0.cell 5 rfl
 have t6:=hq0.cell 6 rfl
 have t7:=hq0.cell 7 rfl
 have t8:=hq0.cell 8 rfl
 have t9:=hq0.cell 9 rfl
 have t10:=hq0.cell 10 rfl
 have t11:=hq0.cell 11 rfl
 have t12:=hq0.cell 12 rfl
 replace hq0:=Hd hq0
 replace hq1:=Hd hq1
 replace hal:=Hd hal
 replace cL:=Hd cL
 replace cH:=Hd cH
 replace cV:=Hd cV
 replace hl2:=Hd hl2
 replace hok:=Hd hok
 replace hmay:=Hd hmay
 replace hagg:=Hd hagg
 replace hv:=Hd hv
 clear cC
 go_enter Tryz.func8,Tryz.ntmps8
 go_wp2_with fail
 refine cC1.out.mono ?_
 rintro e w2 ⟨rfl,hb2⟩
 clear t0 t1 t2a t3 t4 t5 t6 t7 t8 t9 t10 t11 t12
 have hq02:Blk w2 w.heap.size #[.int .i64 o1,.string s1,.int .i64 k2,.bool b1,.int .i64 n1,.string s2,.string s3,.slice e1 e2 e3,.bool f1,.slice e4 e5 e6,.slice e7 e8 e9,.slice d1 d2 d3,.slice d4 d5 d6] 43:=(hb2.block _ hq0.out.lt).trans hq0.out
 have hq12:Hid (Blk w2 (w.heap.size+1) #[.int .i64 0,.bool false,.int .i64 0,.string ⟨#[]⟩,.string ⟨#[]⟩,.slice none 0 0] 38):=Hd ((hb2.block _ hq1.out.lt).trans hq1.out)
 have hB2:=Hd (hal.out.trans (hb2.mono hal.out.size))
 have cH2:=Hd (cH.out _ hB2.out)
 have t0:=hq02.cell 0 rfl
 have t1:=hq02.cell 1 rfl
 have t2a:=hq02.cell 2 rfl
 have t3:=hq02.cell 3 rfl
 have t4:=hq02.cell 4 rfl
 have t5:=hq02.cell 5 rfl
 have t6:=hq02.cell 6 rfl
 have t7:=hq02.cell 7 rfl
 have t8:=hq02.cell 8 rfl
 have t9:=hq02.cell 9 rfl
 have t10:=hq02.cell 10 rfl
 have t11:=hq02.cell 11 rfl
 have t12:=hq02.cell 12 rfl
 replace hq02:=Hd hq02
 clear cC1 hb2 hq0 hq1 hal cH
 go_wp2_with fail
 refine cH2.out.mono ?_
 rintro e w3 ⟨rfl,hb3⟩
 clear t0 t1 t2a t3 t4 t5 t6 t7 t8 t9 t10 t11 t12
 have hq03:Hid (Blk w3 w.heap.size #[.int .i64 o1,.string s1,.int .i64 k2,.bool b1,.int .i64 n1,.string s2,.string s3,.slice e1 e2 e3,.bool f1,.slice e4 e5 e6,.slice e7 e8 e9,.slice d1 d2 d3,.slice d4 d5 d6] 43):=Hd ((hb3.block _ hq02.out.lt).trans hq02.out)
 have hq13:Hid (Blk w3 (w.heap.size+1) #[.int .i64 0,.bool false,.int .i64 0,.string ⟨#[]⟩,.string ⟨#[]⟩,.slice none 0 0] 38):=Hd ((hb3.block _ hq12.out.lt).trans hq12.out)
 have hB3:=Hd (hB2.out.trans (hb3.mono hB2.out.size))
 clear cH2 hb3 hq02 hq12 hB2
 go_wp2_with fail
 refine(cL.out _).mono ?_
 rintro e w4 ⟨rfl,rfl⟩
 have hal4:Below w4.heap.size w4 (w4.alloc (.cells #[.int .i64 lg,(.iface 48 (.agg #[.pointer (some ⟨ev,0,none⟩)]))] 68)):=(Below.refl _ _).alloc (Nat.le_refl _) _
 have hB4:=hB3.out.trans (hal4.mono hB3.out.size)
 have hq04:=hq03.out.alloc (.cells #[.int .i64 lg,(.iface 48 (.agg #[.pointer (some ⟨ev,0,none⟩)]))] 68)
 have hq14:=hq13.out.alloc (.cells #[.int .i64 lg,(.iface 48 (.agg #[.pointer (some ⟨ev,0,none⟩)]))] 68)
 have cV4:=Hd (cV.out _ w4.heap.size hB4 (Blk.new w4 #[.int .i64 lg,(.iface 48 (.agg #[.pointer (some ⟨ev,0,none⟩)]))] 68))
 have t0:=hq04.cell 0 rfl
 have t1:=hq04.cell 1 rfl
 have t2a:=hq04.cell 2 rfl
 have t3:=hq04.cell 3 rfl
 have t4:=hq04.cell 4 rfl
 have t5:=hq04.cell 5 rfl
 have t6:=hq04.cell 6 rfl
 have t7:=hq04.cell 7 rfl
 have t8:=hq04.cell 8 rfl
 have t9:=hq04.cell 9 rfl
 have t10:=hq04.cell 10 rfl
 have t11:=hq04.cell 11 rfl
 have t12:=hq04.cell 12 rfl
 replace hq14:=Hd hq14
 replace hB4:=Hd hB4
 clear cV cL hal4 hq03 hq13 hB3 hq04
 go_wp2_with fail
 refine cV4.out.mono ?_
 rintro e w5 ⟨k,b,n,t,x,ao,m,cap,rfl,hb5⟩
 unfold agg6
 have hal6:Below w5.heap.size w5 (w5.alloc (.cells #[.int .i64 k,.bool b,.int .i64 n,.string t,.string x,.slice ao m cap] 38)):=(Below.refl _ _).alloc (Nat.le_refl _) _
 have hq15:Blk w5 (w.heap.size+1) #[.int .i64 0,.bool false,.int .i64 0,.string ⟨#[]⟩,.string ⟨#[]⟩,.slice none 0 0] 38:=(hb5.block _ hq14.out.lt).trans hq14.out
 have hq16:=hq15.alloc (.cells #[.int .i64 k,.bool b,.int .i64 n,.string t,.string x,.slice ao m cap] 38)
 have hq6:=Blk.new w5 #[.int .i64 k,.bool b,.int .i64 n,.string t,.string x,.slice ao m cap] 38
 have hB5:=hB4.out.trans (hb5.mono hB4.out.size)
 have hB6:=hB5.trans (hal6.mono hB5.size)
 clear t0 t1 t2a t3 t4 t5 t6 t7 t8 t9 t10 t11 t12
 have u0:=hq6.cell 0 rfl
 have u1:=hq6.cell 1 rfl
 have u2a:=hq6.cell 2 rfl
 have u3:=hq6.cell 3 rfl
 have u4:=hq6.cell 4 rfl
 have u5:=hq6.cell 5 rfl
 have v0:=hq16.cell 0 rfl
 have v1:=hq16.cell 1 rfl
 have v2:=hq16.cell 2 rfl
 have v3:=hq16.cell 3 rfl
 have v4:=hq16.cell 4 rfl
 have v5:=hq16.cell 5 rfl
 have f1:=hq16.free
 replace hq16:=Hd hq16
 replace hB6:=Hd hB6
 clear cV4 hb5 hal6 hq15 hq6 hB5 hq14 hB4
 have hern:(er==0)=false:=beq_eq_false_iff_ne.2 her
 go_wp2
 have hfin:=Blk.set6 hq16.out (.int .i64 0) (.bool false) (.int .i64 0) (.string ⟨#[]⟩) (.string ⟨#[]⟩) (.slice none 0 0)
 have hbf:=Below.set6 hB6.out (b:=w.heap.size+1) (Nat.le_succ _) (.int .i64 0) (.bool false) (.int .i64 0) (.string ⟨#[]⟩) (.string ⟨#[]⟩) (.slice none 0 0)
 exact bodyPost_ret (v:=.tuple #[.agg #[.int .i64 0,.bool false,.int .i64 0,.string ⟨#[]⟩,.string ⟨#[]⟩,.slice none 0 0],.int .i64 er]) (res2 rfl _ _ (w.heap.size+1) 38 _ (0,0) _ _ rfl rfl hfin.eq Tryz.underlying38 rfl infoV6) rfl ⟨rfl,hbf⟩
theorem wake_may(s:Bool):mayX s wakeX=true:=by cases s<;>rfl
theorem wake_agg:aggX wakeX=false:=by rfl
end Go.Proofs.YtcaeipdgbaligaaGreatDoor.ex
set_option linter.unusedSimpArgs false
set_option linter.unusedVariables false
set_option maxHeartbeats 4000000
namespace Go.Proofs.YtcaeipdgbaligaaGreatDoor.ex
open Go.ChangeShapes Go.WideShapes Go.ChangeAt Go.RowKit kit dec val tab logic
open hyp (RowA TextsA textsV textsV_length news_one own_row CellsStay)
set_option maxRecDepth 100000
theorem infoStrX:(Tryz.prog.info? 9).map (fun i=>(i.zero,i.size,i.bytes))=some (some (.string ByteArray.empty),1,16):=by kernel_rfl
theorem xvars1(tq:ByteArray)(k2:Int)(b1:Bool)(n1:Int)(s2 s3:ByteArray)(e1:Option Addr)(e2 e3:Nat)(f1:Bool)(e4:Option Addr)(e5 e6:Nat)(e7:Option Addr)(e8 e9:Nat)(d1:Option Addr)(d2 d3:Nat)(d4:Option Addr)(d5 d6:Nat)(w:World)(hb:Nat)(h:Blk w hb #[.slice none 0 0] 23):Calls Tryz.prog 29 #[.agg #[.int .i64 2,.string tq,.int .i64 k2,.bool b1,.int .i64 n1,.string s2,.string s3,.slice e1 e2 e3,.bool f1,.slice e4 e5 e6,.slice e7 e8 e9,.slice d1 d2 d3,.slice d4 d5 d6],.pointer (some ⟨hb,0,none⟩)] w fun e w'=>e=.returned (.tuple #[])∧Keep [hb] w w'∧∃u,Blk w' hb #[u] 23∧RowA w' w'.heap.size u [.string tq]:=by
 obtain⟨i0,hi0,hy0,hy1,hy2⟩:=info_parts infoStrX
 obtain⟨W,hW⟩:∃W,w.alloc (.cells #[.int .i64 2,.string tq,.int .i64 k2,.bool b1,.int .i64 n1,.string s2,.string s3,.slice e1 e2 e3,.bool f1,.slice e4 e5 e6,.slice e7 e8 e9,.slice d1 d2 d3,.slice d4 d5 d6] 43)=W:=⟨_,rfl⟩
 have hq:Blk W w.heap.size #[.int .i64 2,.string tq,.int .i64 k2,.bool b1,.int .i64 n1,.string s2,.string s3,.slice e1 e2 e3,.bool f1,.slice e4 e5 e6,.slice e7 e8 e9,.slice d1 d2 d3,.slice d4 d5 d6] 43:=by rw[←hW];exact Blk.new w #[.int .i64 2,.string tq,.int .i64 k2,.bool b1,.int .i64 n1,.string s2,.string s3,.slice e1 e2 e3,.bool f1,.slice e4 e5 e6,.slice e7 e8 e9,.slice d1 d2 d3,.slice d4 d5 d6] 43
 have h2:Blk W hb #[.slice none 0 0] 23:=by rw[←hW];exact h.alloc (.cells #[.int .i64 2,.string tq,.int .i64 k2,.bool b1,.int .i64 n1,.string s2,.string s3,.slice e1 e2 e3,.bool f1,.slice e4 e5 e6,.slice e7 e8 e9,.slice d1 d2 d3,.slice d4 d5 d6] 43)
 have hkW:Keep [hb] w W:=by rw[←hW];exact(Keep.refl [hb] w).alloc (.cells #[.int .i64 2,.string tq,.int .i64 k2,.bool b1,.int .i64 n1,.string s2,.string s3,.slice e1 e2 e3,.bool f1,.slice e4 e5 e6,.slice e7 e8 e9,.slice d1 d2 d3,.slice d4 d5 d6] 43)
 have x0:=hq.cell 0 rfl
 have x1:=hq.cell 1 rfl
 have z0:=h2.cell 0 rfl
 have f0:=h2.free 0
 have hbl:=Hd h2.lt
 have cC:=contains_any W none 0 [] tq (Nat.zero_le _) (fun j hj=>by simp at hj)
 rw[show decide (tq∈([]:List ByteArray))=false by simp]at cC
 replace cC:=Hd cC
 have hnw:=news_one W (.string tq) 9
 have hownA:(W.alloc (.cells #[.string tq] 9)).ownsRow W.heap.size 9 1 (.slice none 0 0) ([]:List Value).length []:=World.ownsRow_nil _ _ _ _
 replace hnw:=Hd hnw
 replace hownA:=Hd hownA
 replace hi0:=Hd hi0
 replace hy0:=Hd hy0
 replace hy1:=Hd hy1
 replace hy2:=Hd hy2
 replace hq:=Hd hq
 replace h2:=Hd h2
 replace hkW:=Hd hkW
 replace hW:=Hd hW
 clear h
 go_enter Tryz.func29,Tryz.ntmps29
 go_upto_region 1 with fail
 rw[hW.out]
 go_wp2_with fail
 refine cC.out.mono ?_
 rintro e w2 ⟨rfl,rfl⟩
 clear cC
 go_wp2_with (at_builtin;refine wpList_append_own _ rfl _ _ 23 rfl w2.heap.size 9 i0 (.string ByteArray.empty) 1 16 Tryz.underlying23 hi0.out hy0.out hy1.out hy2.out rfl (by decide) _ _ _ rfl hownA.out _ 1 _ [.string tq] rfl rfl hnw.out ?la ?lb ?lc ?ld ?le)
 case la=>simp[Value.oneCell']
 case lb=>simp[maxLen]
 case lc=>simp
 case ld=>rw[World.size_alloc];omega
 case le=>
  intro v9 w9 h1 h3 _
  have hB9:Below w2.heap.size w2 w9:=Below.grown ((Below.refl _ _).alloc (Nat.le_refl _) (.cells #[.string tq] 9)) h3 (by rw[World.size_alloc];omega) (fun g hg=>(hownA.out.lt g hg).1)
  have hk9:Keep [hb] w w9:=hkW.out.trans (Keep.ofBelow hB9) (by simp)
  have hb9:Blk w9 hb #[.slice none 0 0] 23:=(hB9.block _ h2.out.lt).trans h2.out
  have own9:w9.ownsRow w2.heap.size 9 1 v9 [Value.string tq].length [.string tq]:=h1
  obtain⟨a9,c9,rfl⟩:=own_formX own9
  have z1:=hb9.cell 0 rfl
  have f1:=hb9.free 0
  have hfin:=Hd (own_row (own_stay own9 (w':=w9.setCell ⟨hb,0,none⟩ (.slice a9 [Value.string tq].length c9)) fun g hg=>heap_setCell_other w9 ⟨hb,0,none⟩ g _ (by have:=(own9.lt g hg).1;have:=hbl.out;show g≠hb;omega)))
  have hset:=Hd (hb9.set 0 (.slice a9 [Value.string tq].length c9))
  have hks:=Hd (hk9.setCell (p:=⟨hb,0,none⟩) (by simp) (.slice a9 [Value.string tq].length c9))
  clear h1 h3 hownA hnw own9 hB9 hk9 hb9 z0 f0 hq h2 x0 x1
  go_wp2
  go_end0
  exact⟨rfl,hks.out,_,hset.out,hfin.out⟩
theorem walk_vars(tq:ByteArray)(k2:Int)(b1:Bool)(n1:Int)(s2 s3:ByteArray)(e1:Option Addr)(e2 e3:Nat)(f1:Bool)(e4:Option Addr)(e6:Nat)(e7:Option Addr)(e8 e9:Nat)(d1:Option Addr)(d2 d3:Nat)(d4:Option Addr)(d5 d6:Nat)(w:World)(hb:Nat)(h:Blk w hb #[.slice none 0 0] 23):
 Calls Tryz.prog 28 #[.agg #[.int .i64 2,.string tq,.int .i64 k2,.bool b1,.int .i64 n1,.string s2,.string s3,.slice e1 e2 e3,.bool f1,.slice e4 0 e6,.slice e7 e8 e9,.slice d1 d2 d3,.slice d4 d5 d6],.int .i64 1,.func (.func 29) #[] #[.pointer (some ⟨hb,0,none⟩)]] w fun e w'=>e=.returned (.tuple #[])∧Keep [hb] w w'∧∃u,Blk w' hb #[u] 23∧RowA w' w'.heap.size u [.string tq]:=by
 have hq:=Blk.new w #[.int .i64 2,.string tq,.int .i64 k2,.bool b1,.int .i64 n1,.string s2,.string s3,.slice e1 e2 e3,.bool f1,.slice e4 0 e6,.slice e7 e8 e9,.slice d1 d2 d3,.slice d4 d5 d6] 43
 have h2:=h.alloc (.cells #[.int .i64 2,.string tq,.int .i64 k2,.bool b1,.int .i64 n1,.string s2,.string s3,.slice e1 e2 e3,.bool f1,.slice e4 0 e6,.slice e7 e8 e9,.slice d1 d2 d3,.slice d4 d5 d6] 43)
 have hne:w.heap.size≠hb:=by have:=h.lt;omega
 have hk:=(Keep.refl [hb] w).alloc (.cells #[.int .i64 2,.string tq,.int .i64 k2,.bool b1,.int .i64 n1,.string s2,.string s3,.slice e1 e2 e3,.bool f1,.slice e4 0 e6,.slice e7 e8 e9,.slice d1 d2 d3,.slice d4 d5 d6] 43)
 have c1:=Hd (xvars1 tq k2 b1 n1 s2 s3 e1 e2 e3 f1 e4 0 e6 e7 e8 e9 d1 d2 d3 d4 d5 d6 (w.alloc (.cells #[.int .i64 2,.string tq,.int .i64 k2,.bool b1,.int .i64 n1,.string s2,.string s3,.slice e1 e2 e3,.bool f1,.slice e4 0 e6,.slice e7 e8 e9,.slice d1 d2 d3,.slice d4 d5 d6] 43)) hb h2)
 have t0:=hq.cell 0 rfl
 have t1:=hq.cell 1 rfl
 have t2a:=hq.cell 2 rfl
 have t3:=hq.cell 3 rfl
 have t4:=hq.cell 4 rfl
 have t5:=hq.cell 5 rfl
 have t6:=hq.cell 6 rfl
 have t7:=hq.cell 7 rfl
 have t8:=hq.cell 8 rfl
 have t9:=hq.cell 9 rfl
 have t10:=hq.cell 10 rfl
 have t11:=hq.cell 11 rfl
 have t12:=hq.cell 12 rfl
 replace hq:=Hd hq
 replace hk:=Hd hk
 replace hne:=Hd hne
 clear h2 h
 go_enter Tryz.func28,Tryz.ntmps28
 go_wp2_with fail
 refine c1.out.mono ?_
 rintro e w2 ⟨rfl,hk2,u,hb2,hu⟩
 clear t0 t1 t2a t3 t4 t5 t6 t7 t8 t9 t10 t11 t12
 have hq2:=hq.out.keep hk2 (by simpa using hne.out)
 have hkf:=Hd (hk.out.trans hk2 (fun x hx _=>hx))
 have x9:=hq2.cell 9 rfl
 replace hb2:=Hd hb2
 replace hu:=Hd hu
 clear hk2 hq hk c1 hq2
 go_wp2
 go_loopw [16] (fun v wr=>v=.int .i64 0∧Hid (wr=w2)) (fun v _=>0)
 case atStart=>exact⟨rfl,Hd rfl⟩
 case round=>
  obtain⟨rfl,hwr⟩:=hrel
  have hwr2:=hwr.out
  subst hwr2
  clear x9
  go_wp2
  go_end0
  exact⟨rfl,hkf.out,u,hb2.out,hu.out⟩
theorem xvars_q(w:World)(tq:ByteArray)(v:Value)(hv:XV w 1048576 v (X.mk 2 tq nulV false [] [] 0 0)):Calls Tryz.prog 17 #[v] w fun e w'=>∃u,e=.returned u∧Below w.heap.size w w'∧RowA w' w'.heap.size u [.string tq]:=by
 generalize hx:(X.mk 2 tq nulV false [] [] 0 0)=x at hv
 cases hv with
 |mk op t kk b n t2 u2 sv l f aa ca args ap cp plan am mt cm ag gp cg i0 i1 ik i_n i2 i3 hl ha hp hmt hgp=>
  injection hx with g1 g2 g3 g4 g5 g6 g7 g8
  subst g1 g2 g4 g5 g7 g8
  clear g3 g6
  obtain⟨e1,e3,rfl⟩:=hl.form6
  obtain⟨e2,he2⟩:∃e2,l.length=e2:=⟨_,rfl⟩
  rw[he2]
  unfold c13
  clear hl ha hp he2
  generalize plan.length=pl
  rw[List.length_nil]
  have hq:=(Blk.new w #[.int .i64 2,.string tq,.int .i64 kk,.bool b,.int .i64 n,.string t2,.string u2,.slice e1 e2 e3,.bool false,.slice aa 0 ca,.slice ap pl cp,.slice am 0 cm,.slice ag 0 cg] 43).alloc (.cells #[.slice none 0 0] 23)
  have h2:=Blk.new (w.alloc (.cells #[.int .i64 2,.string tq,.int .i64 kk,.bool b,.int .i64 n,.string t2,.string u2,.slice e1 e2 e3,.bool false,.slice aa 0 ca,.slice ap pl cp,.slice am 0 cm,.slice ag 0 cg] 43)) #[.slice none 0 0] 23
  rw[World.size_alloc]at h2
  have hal:Below w.heap.size w ((w.alloc (.cells #[.int .i64 2,.string tq,.int .i64 kk,.bool b,.int .i64 n,.string t2,.string u2,.slice e1 e2 e3,.bool false,.slice aa 0 ca,.slice ap pl cp,.slice am 0 cm,.slice ag 0 cg] 43)).alloc (.cells #[.slice none 0 0] 23)):=((Below.refl _ _).alloc (Nat.le_refl _) _).alloc (by rw[World.size_alloc];omega) _
  have c1:=Hd (walk_vars tq kk b n t2 u2 e1 e2 e3 false aa ca ap pl cp am 0 cm ag 0 cg _ (w.heap.size+1) h2)
  have t0:=hq.cell 0 rfl
  have t1:=hq.cell 1 rfl
  have t2a:=hq.cell 2 rfl
  have t3:=hq.cell 3 rfl
  have t4:=hq.cell 4 rfl
  have t5:=hq.cell 5 rfl
  have t6:=hq.cell 6 rfl
  have t7:=hq.cell 7 rfl
  have t8:=hq.cell 8 rfl
  have t9:=hq.cell 9 rfl
  have t10:=hq.cell 10 rfl
  have t11:=hq.cell 11 rfl
  have t12:=hq.cell 12 rfl
  replace hal:=Hd hal
  clear hq h2
  go_enter Tryz.func17,Tryz.ntmps17
  go_wp2_with fail
  refine c1.out.mono ?_
  rintro e w2 ⟨rfl,hk2,u,hb2,hu⟩
  clear t0 t1 t2a t3 t4 t5 t6 t7 t8 t9 t10 t11 t12
  have z0:=hb2.cell 0 rfl
  have hB:=Hd (hal.out.trans (hk2.under w.heap.size hal.out.size (by simp)))
  replace hu:=Hd hu
  clear hk2 hb2 hal c1
  go_wp2
  go_ret
  exact⟨u,rfl,hB.out,hu.out⟩
theorem eqt_one(w:World)(u v:Value)(tq:ByteArray)(h1:RowA w w.heap.size u [.string tq])(h2:RowA w w.heap.size v [.string tq]):
 Calls Tryz.prog 16 #[u,v] w fun e w'=>e=.returned (.bool true)∧Below w.heap.size w w':=by
 rcases h1 with⟨_,_,_,h⟩|⟨b,off,c,rfl,-,-,-,hc⟩
 ·cases h
 rcases h2 with⟨_,_,_,h⟩|⟨b2,off2,c2,rfl,-,-,-,hc2⟩
 ·cases h
 have x0:w.cell? ⟨b,off,none⟩=some (.string tq):=hc 0 (by simp)
 have x1:w.cell? ⟨b2,off2,none⟩=some (.string tq):=hc2 0 (by simp)
 replace x0:=Hd x0
 replace x1:=Hd x1
 clear hc hc2
 show Calls Tryz.prog 16 #[.slice (some ⟨b,off,none⟩) 1 c,.slice (some ⟨b2,off2,none⟩) 1 c2] w _
 go_enter Tryz.func16,Tryz.ntmps16
 go_wp2
 go_loopw [5] (fun i wr=>∃k:Nat,k≤1∧i=.int .i64 (k:Int)∧Hid (Below w.heap.size w wr)) (fun i _=>1-(intOf i).toNat)
 case atStart=>exact⟨0,by omega,rfl,Hd (Below.refl _ _)⟩
 case round=>
  obtain⟨k,hk,rfl,hb⟩:=hrel
  by_cases hlt:k<1
  ·obtain rfl:k=0:=by omega
   have y0:=sB hb.out x0.out
   have y1:=sB hb.out x1.out
   have hbd:Hid (Below w.heap.size w wr.drew):=Hd (hb.out.trans ⟨rfl,rfl,rfl,Nat.le_refl _,fun _ _=>rfl⟩)
   clear hb
   go_wp2_with fail
   refine wp_region_held_drew (S:=fun V=>Below w.heap.size w V) (by kernel_rfl) hbd.out (fun hS=>?_)
   generalize wr.drew=V0 at *
   clear y0 y1
   have x0o:=x0.out
   have x1o:=x1.out
   refine tkS [0,1,2,3,4,5,6,7,8] ?_
   iterate 9
    refine tkC ?_ rfl (fun w' hS=>?_) hS ?_
    rotate_left
    ·
     have q0:=sB hS x0o;have q1:=sB hS x1o
     go_simp
     try with_reducible rfl
   refine wpAnyH_done (by kernel_rfl) ?_ _
   clear hS
   go_wp2
   go_roundw
   case rel=>exact⟨1,by omega,by go_num,hbd⟩
   case measure=>simp[intOf]
  ·have hki:¬(k:Int)<(1:Int):=by omega
   go_wp2
   go_ret
   exact⟨rfl,hb.out⟩
end Go.Proofs.YtcaeipdgbaligaaGreatDoor.ex
