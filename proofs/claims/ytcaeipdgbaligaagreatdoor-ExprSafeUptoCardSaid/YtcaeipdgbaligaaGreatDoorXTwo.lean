/- Texts XEvE, XTwo, one behind the other. -/
import Derived.Test.YtcaeipdgbaligaaGreatDoorXEvV
set_option linter.unusedSimpArgs false
set_option linter.unusedVariables false
set_option maxHeartbeats 8000000
namespace Go.Proofs.YtcaeipdgbaligaaGreatDoor.ex
open Go.ChangeShapes Go.WideShapes Go.ChangeAt Go.RowKit kit dec val tab logic
open hyp (RowA TextsA textsV textsV_length news_one own_row)
set_option maxRecDepth 100000
theorem not_nilE(W:World)(u:TypeId)(v:Value):(binOp .eql 64 (.iface u v) .nilIface).run Tryz.prog W=.ok (.bool false) W:=by kernel_rfl
def OkP(w:World)(e:Ending)(w':World):Prop:=∃k b n t x ao m cap,e=.returned (.tuple #[agg6 k b n t x (.slice ao m cap),.int .i64 0])∧Below w.heap.size w w'
theorem xeval_of(w:World)(hE:EnvD w)(lang:Int)(v:Value)(x:X)(hv:XV w 1048576 v x)(ev:Nat)(bx:Bool)(hmay:mayX (decide (lang=1)) x=true)(hagg:aggX x=false)
 (cV:∀W eb,Below w.heap.size w W→Blk W eb #[.int .i64 (sI (decide (lang=1))),(.iface 48 (.agg #[.pointer (some ⟨ev,0,none⟩)]))] 68→Calls Tryz.prog 22 #[.pointer (some ⟨eb,0,none⟩),v] W (EvP bx W)):
 Calls Tryz.prog 8 #[.int .i64 lang,v,(.iface 48 (.agg #[.pointer (some ⟨ev,0,none⟩)]))] w (OkP w):=by
 have hag:∃cs,v=.agg cs:=by cases hv;exact⟨_,rfl⟩
 obtain⟨cs,rfl⟩:=hag
 obtain⟨o1,s1,k2,b1,n1,s2,s3,e1,e2,e3,f1,e4,e5,e6,e7,e8,e9,d1,d2,d3,d4,d5,d6,rfl⟩:=hv.form
 have hok:okX (decide (lang=1)) 1 false x=true:=by
  unfold mayX at hmay
  rw[Bool.and_eq_true]at hmay
  exact hmay.1
 have hl2:(if lang=1 then(1:Int) else 0)=sI (decide (lang=1)):=by
  by_cases h:lang=1<;>simp[h,sI]
 have cL:=fun W=>xlang_any W lang
 rw[hl2]at cL
 have cC:=fun W (h:Below w.heap.size w W)=>xcheck_any W (hE.below h).env lang _ x (hv.stay h)
 rw[hmay]at cC
 have cH:=fun W (h:Below w.heap.size w W)=>xhasagg_any W _ x (hv.stay h) _ hok
 rw[hagg]at cH
 generalize sI (decide (lang=1))=lg at *
 have hn:=fun W=>not_nilE W 48 (.agg #[.pointer (some ⟨ev,0,none⟩)])
 unfold c13 at cC cH cV ⊢
 have hq0:=(Blk.new w #[.int .i64 o1,.string s1,.int .i64 k2,.bool b1,.int .i64 n1,.string s2,.string s3,.slice e1 e2 e3,.bool f1,.slice e4 e5 e6,.slice e7 e8 e9,.slice d1 d2 d3,.slice d4 d5 d6] 43).alloc (.cells #[.int .i64 0,.bool false,.int .i64 0,.string ⟨#[]⟩,.string ⟨#[]⟩,.slice none 0 0] 38)
 have hq1:=Blk.new (w.alloc (.cells #[.int .i64 o1,.string s1,.int .i64 k2,.bool b1,.int .i64 n1,.string s2,.string s3,.slice e1 e2 e3,.bool f1,.slice e4 e5 e6,.slice e7 e8 e9,.slice d1 d2 d3,.slice d4 d5 d6] 43)) #[.int .i64 0,.bool false,.int .i64 0,.string ⟨#[]⟩,.string ⟨#[]⟩,.slice none 0 0] 38
 rw[World.size_alloc]at hq1
 have hal:Below w.heap.size w ((w.alloc (.cells #[.int .i64 o1,.string s1,.int .i64 k2,.bool b1,.int .i64 n1,.string s2,.string s3,.slice e1 e2 e3,.bool f1,.slice e4 e5 e6,.slice e7 e8 e9,.slice d1 d2 d3,.slice d4 d5 d6] 43)).alloc (.cells #[.int .i64 0,.bool false,.int .i64 0,.string ⟨#[]⟩,.string ⟨#[]⟩,.slice none 0 0] 38)):=((Below.refl _ _).alloc (Nat.le_refl _) _).alloc (by rw[World.size_alloc];omega) _
 have cC1:=Hd (cC _ hal)
 have t0:=hq0.cell 0 rfl
 have t1:=hq0.cell 1 rfl
 have t2a:=hq0.cell 2 rfl
 have t3:=hq0.cell 3 rfl
 have t4:=hq0.cell 4 rfl
 have t5:=hq0.cell 5 rfl
 have t6:=hq0.cell 6 rfl
 have t7:=hq0.cell 7 rfl
 have t8:=hq0.cell 8 rfl
 have t9:=hq0.cell 9 rfl
 have t10:=hq0.cell 10 rfl
 have t11:=hq0.cell 11 rfl
 have t12:=hq0.cell 12 rfl
 replace hq0:=Hd hq0
 replace hq1:=Hd hq1
 replace hal:=Hd hal
 replace cL:=Hd cL
 replace cH:=Hd cH
 replace cV:=Hd cV
 replace hl2:=Hd hl2
 replace hok:=Hd hok
 replace hmay:=Hd hmay
 replace hagg:=Hd hagg
 replace hv:=Hd hv
 clear cC
 go_enter Tryz.func8,Tryz.ntmps8
 go_wp2_with fail
 refine cC1.out.mono ?_
 rintro e w2 ⟨rfl,hb2⟩
 clear t0 t1 t2a t3 t4 t5 t6 t7 t8 t9 t10 t11 t12
 have hq02:Blk w2 w.heap.size #[.int .i64 o1,.string s1,.int .i64 k2,.bool b1,.int .i64 n1,.string s2,.string s3,.slice e1 e2 e3,.bool f1,.slice e4 e5 e6,.slice e7 e8 e9,.slice d1 d2 d3,.slice d4 d5 d6] 43:=(hb2.block _ hq0.out.lt).trans hq0.out
 have hq12:Hid (Blk w2 (w.heap.size+1) #[.int .i64 0,.bool false,.int .i64 0,.string ⟨#[]⟩,.string ⟨#[]⟩,.slice none 0 0] 38):=Hd ((hb2.block _ hq1.out.lt).trans hq1.out)
 have hB2:=Hd (hal.out.trans (hb2.mono hal.out.size))
 have cH2:=Hd (cH.out _ hB2.out)
 have t0:=hq02.cell 0 rfl
 have t1:=hq02.cell 1 rfl
 have t2a:=hq02.cell 2 rfl
 have t3:=hq02.cell 3 rfl
 have t4:=hq02.cell 4 rfl
 have t5:=hq02.cell 5 rfl
 have t6:=hq02.cell 6 rfl
 have t7:=hq02.cell 7 rfl
 have t8:=hq02.cell 8 rfl
 have t9:=hq02.cell 9 rfl
 have t10:=hq02.cell 10 rfl
 have t11:=hq02.cell 11 rfl
 have t12:=hq02.cell 12 rfl
 replace hq02:=Hd hq02
 clear cC1 hb2 hq0 hq1 hal cH
 go_wp2_with fail
 refine cH2.out.mono ?_
 rintro e w3 ⟨rfl,hb3⟩
 clear t0 t1 t2a t3 t4 t5 t6 t7 t8 t9 t10 t11 t12
 have hq03:Hid (Blk w3 w.heap.size #[.int .i64 o1,.string s1,.int .i64 k2,.bool b1,.int .i64 n1,.string s2,.string s3,.slice e1 e2 e3,.bool f1,.slice e4 e5 e6,.slice e7 e8 e9,.slice d1 d2 d3,.slice d4 d5 d6] 43):=Hd ((hb3.block _ hq02.out.lt).trans hq02.out)
 have hq13:Hid (Blk w3 (w.heap.size+1) #[.int .i64 0,.bool false,.int .i64 0,.string ⟨#[]⟩,.string ⟨#[]⟩,.slice none 0 0] 38):=Hd ((hb3.block _ hq12.out.lt).trans hq12.out)
 have hB3:=Hd (hB2.out.trans (hb3.mono hB2.out.size))
 clear cH2 hb3 hq02 hq12 hB2
 go_wp2_with fail
 refine(cL.out _).mono ?_
 rintro e w4 ⟨rfl,rfl⟩
 have hal4:Below w4.heap.size w4 (w4.alloc (.cells #[.int .i64 lg,(.iface 48 (.agg #[.pointer (some ⟨ev,0,none⟩)]))] 68)):=(Below.refl _ _).alloc (Nat.le_refl _) _
 have hB4:=hB3.out.trans (hal4.mono hB3.out.size)
 have hq04:=hq03.out.alloc (.cells #[.int .i64 lg,(.iface 48 (.agg #[.pointer (some ⟨ev,0,none⟩)]))] 68)
 have hq14:=hq13.out.alloc (.cells #[.int .i64 lg,(.iface 48 (.agg #[.pointer (some ⟨ev,0,none⟩)]))] 68)
 have cV4:=Hd (cV.out _ w4.heap.size hB4 (Blk.new w4 #[.int .i64 lg,(.iface 48 (.agg #[.pointer (some ⟨ev,0,none⟩)]))] 68))
 have t0:=hq04.cell 0 rfl
 have t1:=hq04.cell 1 rfl
 have t2a:=hq04.cell 2 rfl
 have t3:=hq04.cell 3 rfl
 have t4:=hq04.cell 4 rfl
 have t5:=hq04.cell 5 rfl
 have t6:=hq04.cell 6 rfl
 have t7:=hq04.cell 7 rfl
 have t8:=hq04.cell 8 rfl
 have t9:=hq04.cell 9 rfl
 have t10:=hq04.cell 10 rfl
 have t11:=hq04.cell 11 rfl
 have t12:=hq04.cell 12 rfl
 replace hq14:=Hd hq14
 replace hB4:=Hd hB4
 clear cV cL hal4 hq03 hq13 hB3 hq04
 go_wp2_with fail
 refine cV4.out.mono ?_
 rintro e w5 ⟨k,b,n,t,x,ao,cap,l,rfl,hb5,-,-,-,-⟩
 unfold agg6
 have hal6:Below w5.heap.size w5 (w5.alloc (.cells #[.int .i64 k,.bool b,.int .i64 n,.string t,.string x,.slice ao l.length cap] 38)):=(Below.refl _ _).alloc (Nat.le_refl _) _
 have hq15:Blk w5 (w.heap.size+1) #[.int .i64 0,.bool false,.int .i64 0,.string ⟨#[]⟩,.string ⟨#[]⟩,.slice none 0 0] 38:=(hb5.block _ hq14.out.lt).trans hq14.out
 have hq16:=hq15.alloc (.cells #[.int .i64 k,.bool b,.int .i64 n,.string t,.string x,.slice ao l.length cap] 38)
 have hq6:=Blk.new w5 #[.int .i64 k,.bool b,.int .i64 n,.string t,.string x,.slice ao l.length cap] 38
 have hB5:=hB4.out.trans (hb5.mono hB4.out.size)
 have hB6:=hB5.trans (hal6.mono hB5.size)
 clear t0 t1 t2a t3 t4 t5 t6 t7 t8 t9 t10 t11 t12
 have u0:=hq6.cell 0 rfl
 have u1:=hq6.cell 1 rfl
 have u2a:=hq6.cell 2 rfl
 have u3:=hq6.cell 3 rfl
 have u4:=hq6.cell 4 rfl
 have u5:=hq6.cell 5 rfl
 have v0:=hq16.cell 0 rfl
 have v1:=hq16.cell 1 rfl
 have v2:=hq16.cell 2 rfl
 have v3:=hq16.cell 3 rfl
 have v4:=hq16.cell 4 rfl
 have v5:=hq16.cell 5 rfl
 have f1:=hq16.free
 replace hq16:=Hd hq16
 replace hB6:=Hd hB6
 clear cV4 hb5 hal6 hq15 hq6 hB5 hq14 hB4
 go_wp2
 have hfin:=Blk.set6 hq16.out (.int .i64 k) (.bool b) (.int .i64 n) (.string t) (.string x) (.slice ao l.length cap)
 have hbf:=Below.set6 hB6.out (b:=w.heap.size+1) (Nat.le_succ _) (.int .i64 k) (.bool b) (.int .i64 n) (.string t) (.string x) (.slice ao l.length cap)
 exact bodyPost_ret (v:=.tuple #[agg6 k b n t x (.slice ao l.length cap),.int .i64 0]) (res2 rfl _ _ (w.heap.size+1) 38 _ (0,0) _ _ rfl rfl hfin.eq Tryz.underlying38 rfl infoV6) rfl ⟨k,b,n,t,x,ao,l.length,cap,rfl,hbf⟩
theorem xeval_safe(w:World)(hE:EnvD w)(lang:Int)(v:Value)(x:X)(hv:XV w 1048576 v x)(ev:Nat)(ns:List ByteArray)(vs:List V)(hM:EnvM w ev ns vs)(hsafe:safeX (decide (lang=1)) x=true):
 Calls Tryz.prog 8 #[.int .i64 lang,v,(.iface 48 (.agg #[.pointer (some ⟨ev,0,none⟩)]))] w (OkP w):=by
 unfold safeX at hsafe
 rw[Bool.and_eq_true]at hsafe
 obtain⟨hmay,hs⟩:=hsafe
 have hok:okX (decide (lang=1)) 1 false x=true:=by
  have h:=hmay
  unfold mayX at h
  rw[Bool.and_eq_true]at h
  exact h.1
 by_cases hl:lang=1
 ·rw [decide_eq_true hl] at hs hok
  rw[if_pos rfl]at hs
  have hv0:=hv
  cases hv with
  | mk op t kk b n t2 u2 sv l f aa ca args ap cp plan am mt cm ag gp cg i0 i1 ik i_n i2 i3 hl2 ha hp hmt hgp =>
   obtain rfl:op=1:=of_decide_eq_true hs
   obtain⟨e1,e3,rfl⟩:=hl2.form6
   have hok2:=hok
   rw[okX]at hok2
   simp only[Bool.and_eq_true]at hok2
   have hown:=hok2.1.1.2
   have hargs:args=[]:=by
    unfold ownX at hown
    rw[Bool.and_eq_true]at hown
    have h:=hown.2
    simp at h
    exact h.1
   refine xeval_of w hE lang _ _ hv0 ev false hmay ?_ fun W eb hW hb=>?_
   ·rw[aggX,hargs,aggXs];rfl
   ·unfold c13
    exact value_is 1 t kk b n t2 u2 e1 l.length e3 f aa args.length ca ap plan.length cp am mt cm ag gp cg W eb false fun W2 hW2=>
     sing_lit t kk b n t2 u2 e1 e3 l f aa args.length ca ap plan.length cp am mt cm ag gp cg W2 _ (hl2.stay (hW.trans (hW2.mono hW.size))) ⟨ik,i_n,i2,i3⟩ ((own_part hown).1 rfl) false fun h=>by cases h
 ·rw[decide_eq_false hl]at hs hok
  have hcalm:calmX x=true:=hs
  refine xeval_of w hE lang v x hv ev (bareX x) hmay (calm_agg false 1 false x hok hcalm) fun W eb hW hb=>?_
  rw[decide_eq_false hl]at hb
  exact value_all (SizeOf.sizeOf x+1) x (Nat.lt_succ_self _) 1 false hok hcalm W eb ev ns vs ⟨hE.below hW,hb,hM.stay hW⟩ v (hv.stay hW)
end Go.Proofs.YtcaeipdgbaligaaGreatDoor.ex
set_option linter.unusedSimpArgs false
set_option linter.unusedVariables false
set_option maxHeartbeats 4000000
namespace Go.Proofs.YtcaeipdgbaligaaGreatDoor.ex
open Go.ChangeShapes Go.WideShapes Go.ChangeAt Go.RowKit kit dec val tab logic
set_option maxRecDepth 100000
theorem infoX13:(Tryz.prog.info? 43).map (·.size)=some 13:=by kernel_rfl
theorem xs_nil(w:World)(N:Nat):XS w N (.slice none 0 0) []:=.mk none 0 [] (by simp) (fun j hj=>by simp at hj)
theorem ps_nil(w:World)(N:Nat):PS w N (.slice none 0 0) []:=.mk none 0 [] (by simp) (fun j hj=>by simp at hj)
theorem la_nil(w:World)(N:Nat):LA w N (.slice none 0 0) []:=.mk none 0 [] (by simp) (fun j hj=>by simp at hj)
def litX(v:V):X:=.mk 1 ⟨#[]⟩ v false [] [] 0 0
def numV1(n:Int):V:=.mk 2 false n ⟨#[]⟩ ⟨#[]⟩ []
def boolV1(b:Bool):V:=.mk 1 b 0 ⟨#[]⟩ ⟨#[]⟩ []
def twoX(op:Int)(a b:X):X:=.mk op ⟨#[]⟩ nulV false [a,b] [] 0 0
theorem zero_le_N:(ByteArray.mk #[]).size≤1048576:=by show 0≤1048576;omega
theorem litX_xv(w:World)(k:Int)(b:Bool)(n:Int)(hk:In64 k)(hn:In64 n):XV w 1048576 (.agg #[.int .i64 1,.string ⟨#[]⟩,.int .i64 k,.bool b,.int .i64 n,.string ⟨#[]⟩,.string ⟨#[]⟩,.slice none 0 0,.bool false,.slice none 0 0,.slice none 0 0,.slice none 0 0,.slice none 0 0]) (litX (.mk k b n ⟨#[]⟩ ⟨#[]⟩ [])):=
 .mk 1 ⟨#[]⟩ k b n ⟨#[]⟩ ⟨#[]⟩ (.slice none 0 0) [] false none 0 [] none 0 [] none 0 0 none 0 0 ⟨by omega,by omega⟩ zero_le_N hk hn zero_le_N zero_le_N (la_nil _ _) (xs_nil _ _) (ps_nil _ _) (Nat.zero_le _) (Nat.zero_le _)
def XtP(x:X)(w:World)(e:Ending)(w':World):Prop:=∃v,e=.returned v∧Below w.heap.size w w'∧XV w' 1048576 v x
theorem xnum_any(w:World)(n:Int)(hn:In64 n):Calls Tryz.prog 14 #[.int .i64 n] w (XtP (litX (numV1 n)) w):=by
 have hq:=Blk.new w #[.int .i64 1,.string ⟨#[]⟩,.int .i64 2,.bool false,.int .i64 n,.string ⟨#[]⟩,.string ⟨#[]⟩,.slice none 0 0,.bool false,.slice none 0 0,.slice none 0 0,.slice none 0 0,.slice none 0 0] 43
 have hal:Below w.heap.size w (w.alloc (.cells #[.int .i64 1,.string ⟨#[]⟩,.int .i64 2,.bool false,.int .i64 n,.string ⟨#[]⟩,.string ⟨#[]⟩,.slice none 0 0,.bool false,.slice none 0 0,.slice none 0 0,.slice none 0 0,.slice none 0 0] 43)):=(Below.refl _ _).alloc (Nat.le_refl _) _
 replace hq:=Hd hq
 replace hal:=Hd hal
 replace hn:=Hd hn
 go_enter Tryz.func14,Tryz.ntmps14
 go_wp2
 exact bodyPost_ret (v:=.agg #[.int .i64 1,.string ⟨#[]⟩,.int .i64 2,.bool false,.int .i64 n,.string ⟨#[]⟩,.string ⟨#[]⟩,.slice none 0 0,.bool false,.slice none 0 0,.slice none 0 0,.slice none 0 0,.slice none 0 0]) (results_cell_row rfl _ _ w.heap.size 43 _ (0,0) _ rfl hq.out.eq Tryz.underlying43 rfl infoX13) rfl ⟨_,rfl,hal.out,litX_xv _ 2 false n ⟨by omega,by omega⟩ hn.out⟩
theorem xlitb_any(w:World)(b:Bool):Calls Tryz.prog 15 #[.bool b] w (XtP (litX (boolV1 b)) w):=by
 have hq:=Blk.new w #[.int .i64 1,.string ⟨#[]⟩,.int .i64 1,.bool b,.int .i64 0,.string ⟨#[]⟩,.string ⟨#[]⟩,.slice none 0 0,.bool false,.slice none 0 0,.slice none 0 0,.slice none 0 0,.slice none 0 0] 43
 have hal:Below w.heap.size w (w.alloc (.cells #[.int .i64 1,.string ⟨#[]⟩,.int .i64 1,.bool b,.int .i64 0,.string ⟨#[]⟩,.string ⟨#[]⟩,.slice none 0 0,.bool false,.slice none 0 0,.slice none 0 0,.slice none 0 0,.slice none 0 0] 43)):=(Below.refl _ _).alloc (Nat.le_refl _) _
 replace hq:=Hd hq
 replace hal:=Hd hal
 go_enter Tryz.func15,Tryz.ntmps15
 go_wp2
 exact bodyPost_ret (v:=.agg #[.int .i64 1,.string ⟨#[]⟩,.int .i64 1,.bool b,.int .i64 0,.string ⟨#[]⟩,.string ⟨#[]⟩,.slice none 0 0,.bool false,.slice none 0 0,.slice none 0 0,.slice none 0 0,.slice none 0 0]) (results_cell_row rfl _ _ w.heap.size 43 _ (0,0) _ rfl hq.out.eq Tryz.underlying43 rfl infoX13) rfl ⟨_,rfl,hal.out,litX_xv _ 1 b 0 ⟨by omega,by omega⟩ ⟨by omega,by omega⟩⟩
theorem xc_mk{w:World}{N b off o:Nat}{cs:Array Value}{x:X}(hr:Row13 w b (off+o) cs)(h:XV w N (.agg cs) x):XC w N (some ⟨b,off,none⟩) o x:=by
 generalize hv:Value.agg cs=v at h
 cases h with
 | mk op t k bo n t2 u2 s l f aa ca args ap cp plan am mt cm ag gp cg h0 h1 hk hn h2 h3 hl ha hp hm hg =>
  injection hv with hv
  subst hv
  obtain⟨c0,c1,c2,c3,c4,c5,c6,c7,c8,c9,c10,c11,c12⟩:=hr.all
  have cl:∀i v,w.cell? ⟨b,off+o+i,none⟩=some v→Cl w (some ⟨b,off,none⟩) (o+i) v:=fun i v hc=>⟨b,off,rfl,hr.lt,by rw[←Nat.add_assoc];exact hc⟩
  exact .mk _ o op t (.mk k bo n t2 u2 l) f args plan mt gp _ _ am ag cm cg (cl 0 _ c0) h0 (cl 1 _ c1) h1 (.mk b off (o+2) k bo n t2 u2 l s ⟨hr.lt,by rw[←Nat.add_assoc];exact c2,by rw[←Nat.add_assoc];exact c3,by rw[←Nat.add_assoc];exact c4,by rw[←Nat.add_assoc];exact c5,by rw[←Nat.add_assoc];exact c6,by rw[←Nat.add_assoc];exact c7⟩ hk hn h2 h3 hl)
   (cl 8 _ c8) (cl 9 _ c9) ha (cl 10 _ c10) hp (cl 11 _ c11) hm (cl 12 _ c12) hg
theorem xtwo_any(w:World)(op:Int)(hop:In64 op)(va vb:Value)(xa xb:X)(ha:XV w 1048576 va xa)(hb:XV w 1048576 vb xb):Calls Tryz.prog 13 #[.int .i64 op,va,vb] w (XtP (twoX op xa xb) w):=by
 have hag:∃cs,va=.agg cs:=by cases ha;exact⟨_,rfl⟩
 obtain⟨ca,rfl⟩:=hag
 have hbg:∃cs,vb=.agg cs:=by cases hb;exact⟨_,rfl⟩
 obtain⟨cb,rfl⟩:=hbg
 obtain⟨o1,s1,k2,b1,n1,s2,s3,e1,e2,e3,f1,e4,e5,e6,e7,e8,e9,d1,d2,d3,d4,d5,d6,rfl⟩:=ha.form
 obtain⟨p1,q1,l2,c1,m1,q2,q3,g1,g2,g3,h1,g4,g5,g6,g7,g8,g9,j1,j2,j3,j4,j5,j6,rfl⟩:=hb.form
 unfold c13
 obtain⟨W3,hW3⟩:∃W3,((w.alloc (.cells #[.int .i64 o1,.string s1,.int .i64 k2,.bool b1,.int .i64 n1,.string s2,.string s3,.slice e1 e2 e3,.bool f1,.slice e4 e5 e6,.slice e7 e8 e9,.slice d1 d2 d3,.slice d4 d5 d6] 43)).alloc (.cells #[.int .i64 p1,.string q1,.int .i64 l2,.bool c1,.int .i64 m1,.string q2,.string q3,.slice g1 g2 g3,.bool h1,.slice g4 g5 g6,.slice g7 g8 g9,.slice j1 j2 j3,.slice j4 j5 j6] 43)).alloc (.cells #[.int .i64 0,.string ⟨#[]⟩,.int .i64 0,.bool false,.int .i64 0,.string ⟨#[]⟩,.string ⟨#[]⟩,.slice none 0 0,.bool false,.slice none 0 0,.slice none 0 0,.slice none 0 0,.slice none 0 0] 43)=W3:=⟨_,rfl⟩
 have hs3:W3.heap.size=w.heap.size+3:=by rw[←hW3];simp only[World.size_alloc]
 have hB3:Below w.heap.size w W3:=by
  rw[←hW3]
  exact(((Below.refl _ _).alloc (Nat.le_refl _) _).alloc (by simp only[World.size_alloc];omega) _).alloc (by simp only[World.size_alloc];omega) _
 have hA:Blk W3 w.heap.size #[.int .i64 o1,.string s1,.int .i64 k2,.bool b1,.int .i64 n1,.string s2,.string s3,.slice e1 e2 e3,.bool f1,.slice e4 e5 e6,.slice e7 e8 e9,.slice d1 d2 d3,.slice d4 d5 d6] 43:=by rw[←hW3];exact((Blk.new _ _ _).alloc _).alloc _
 have hBk:Blk W3 (w.heap.size+1) #[.int .i64 p1,.string q1,.int .i64 l2,.bool c1,.int .i64 m1,.string q2,.string q3,.slice g1 g2 g3,.bool h1,.slice g4 g5 g6,.slice g7 g8 g9,.slice j1 j2 j3,.slice j4 j5 j6] 43:=by
  rw[←hW3]
  have:=Blk.new (w.alloc (.cells #[.int .i64 o1,.string s1,.int .i64 k2,.bool b1,.int .i64 n1,.string s2,.string s3,.slice e1 e2 e3,.bool f1,.slice e4 e5 e6,.slice e7 e8 e9,.slice d1 d2 d3,.slice d4 d5 d6] 43)) #[.int .i64 p1,.string q1,.int .i64 l2,.bool c1,.int .i64 m1,.string q2,.string q3,.slice g1 g2 g3,.bool h1,.slice g4 g5 g6,.slice g7 g8 g9,.slice j1 j2 j3,.slice j4 j5 j6] 43
  rw[World.size_alloc]at this
  exact this.alloc _
 have hR:Blk W3 (w.heap.size+2) #[.int .i64 0,.string ⟨#[]⟩,.int .i64 0,.bool false,.int .i64 0,.string ⟨#[]⟩,.string ⟨#[]⟩,.slice none 0 0,.bool false,.slice none 0 0,.slice none 0 0,.slice none 0 0,.slice none 0 0] 43:=by
  rw[←hW3]
  have:=Blk.new ((w.alloc (.cells #[.int .i64 o1,.string s1,.int .i64 k2,.bool b1,.int .i64 n1,.string s2,.string s3,.slice e1 e2 e3,.bool f1,.slice e4 e5 e6,.slice e7 e8 e9,.slice d1 d2 d3,.slice d4 d5 d6] 43)).alloc (.cells #[.int .i64 p1,.string q1,.int .i64 l2,.bool c1,.int .i64 m1,.string q2,.string q3,.slice g1 g2 g3,.bool h1,.slice g4 g5 g6,.slice g7 g8 g9,.slice j1 j2 j3,.slice j4 j5 j6] 43)) #[.int .i64 0,.string ⟨#[]⟩,.int .i64 0,.bool false,.int .i64 0,.string ⟨#[]⟩,.string ⟨#[]⟩,.slice none 0 0,.bool false,.slice none 0 0,.slice none 0 0,.slice none 0 0,.slice none 0 0] 43
  rw[World.size_alloc,World.size_alloc]at this
  exact this
 have x0:=hA.cell 0 rfl
 have x1:=hA.cell 1 rfl
 have x2:=hA.cell 2 rfl
 have x3:=hA.cell 3 rfl
 have x4:=hA.cell 4 rfl
 have x5:=hA.cell 5 rfl
 have x6:=hA.cell 6 rfl
 have x7:=hA.cell 7 rfl
 have x8:=hA.cell 8 rfl
 have x9:=hA.cell 9 rfl
 have x10:=hA.cell 10 rfl
 have x11:=hA.cell 11 rfl
 have x12:=hA.cell 12 rfl
 have y0:=hBk.cell 0 rfl
 have y1:=hBk.cell 1 rfl
 have y2:=hBk.cell 2 rfl
 have y3:=hBk.cell 3 rfl
 have y4:=hBk.cell 4 rfl
 have y5:=hBk.cell 5 rfl
 have y6:=hBk.cell 6 rfl
 have y7:=hBk.cell 7 rfl
 have y8:=hBk.cell 8 rfl
 have y9:=hBk.cell 9 rfl
 have y10:=hBk.cell 10 rfl
 have y11:=hBk.cell 11 rfl
 have y12:=hBk.cell 12 rfl
 have hal4:Below W3.heap.size W3 (W3.alloc (.cells #[.int .i64 o1,.string s1,.int .i64 k2,.bool b1,.int .i64 n1,.string s2,.string s3,.slice e1 e2 e3,.bool f1,.slice e4 e5 e6,.slice e7 e8 e9,.slice d1 d2 d3,.slice d4 d5 d6,.int .i64 p1,.string q1,.int .i64 l2,.bool c1,.int .i64 m1,.string q2,.string q3,.slice g1 g2 g3,.bool h1,.slice g4 g5 g6,.slice g7 g8 g9,.slice j1 j2 j3,.slice j4 j5 j6] 43)):=(Below.refl _ _).alloc (Nat.le_refl _) _
 have hR4:=hR.alloc (.cells #[.int .i64 o1,.string s1,.int .i64 k2,.bool b1,.int .i64 n1,.string s2,.string s3,.slice e1 e2 e3,.bool f1,.slice e4 e5 e6,.slice e7 e8 e9,.slice d1 d2 d3,.slice d4 d5 d6,.int .i64 p1,.string q1,.int .i64 l2,.bool c1,.int .i64 m1,.string q2,.string q3,.slice g1 g2 g3,.bool h1,.slice g4 g5 g6,.slice g7 g8 g9,.slice j1 j2 j3,.slice j4 j5 j6] 43)
 have hq4:=Blk.new W3 #[.int .i64 o1,.string s1,.int .i64 k2,.bool b1,.int .i64 n1,.string s2,.string s3,.slice e1 e2 e3,.bool f1,.slice e4 e5 e6,.slice e7 e8 e9,.slice d1 d2 d3,.slice d4 d5 d6,.int .i64 p1,.string q1,.int .i64 l2,.bool c1,.int .i64 m1,.string q2,.string q3,.slice g1 g2 g3,.bool h1,.slice g4 g5 g6,.slice g7 g8 g9,.slice j1 j2 j3,.slice j4 j5 j6] 43
 have hB4:=hB3.trans (hal4.mono hB3.size)
 rw[hs3]at hq4
 have ha4:=ha.stay hB4
 have hb4:=hb.stay hB4
 replace hW3:=Hd hW3
 replace hs3:=Hd hs3
 have hR5:Blk (W3.alloc (.cells #[.int .i64 o1,.string s1,.int .i64 k2,.bool b1,.int .i64 n1,.string s2,.string s3,.slice e1 e2 e3,.bool f1,.slice e4 e5 e6,.slice e7 e8 e9,.slice d1 d2 d3,.slice d4 d5 d6,.int .i64 p1,.string q1,.int .i64 l2,.bool c1,.int .i64 m1,.string q2,.string q3,.slice g1 g2 g3,.bool h1,.slice g4 g5 g6,.slice g7 g8 g9,.slice j1 j2 j3,.slice j4 j5 j6] 43)) (w.heap.size+1+1) #[.int .i64 0,.string ⟨#[]⟩,.int .i64 0,.bool false,.int .i64 0,.string ⟨#[]⟩,.string ⟨#[]⟩,.slice none 0 0,.bool false,.slice none 0 0,.slice none 0 0,.slice none 0 0,.slice none 0 0] 43:=hR4
 replace hR4:=Hd hR5
 clear hR5
 replace hq4:=Hd hq4
 replace hB4:=Hd hB4
 replace ha4:=Hd ha4
 replace hb4:=Hd hb4
 replace ha:=Hd ha
 replace hb:=Hd hb
 clear hal4 hR hA hBk hB3
 go_enter Tryz.func13,Tryz.ntmps13
 go_upto_region 1 with fail
 rw[show((w.alloc (.cells #[.int .i64 o1,.string s1,.int .i64 k2,.bool b1,.int .i64 n1,.string s2,.string s3,.slice e1 e2 e3,.bool f1,.slice e4 e5 e6,.slice e7 e8 e9,.slice d1 d2 d3,.slice d4 d5 d6] 43)).alloc (.cells #[.int .i64 p1,.string q1,.int .i64 l2,.bool c1,.int .i64 m1,.string q2,.string q3,.slice g1 g2 g3,.bool h1,.slice g4 g5 g6,.slice g7 g8 g9,.slice j1 j2 j3,.slice j4 j5 j6] 43)).alloc (.cells #[.int .i64 0,.string ⟨#[]⟩,.int .i64 0,.bool false,.int .i64 0,.string ⟨#[]⟩,.string ⟨#[]⟩,.slice none 0 0,.bool false,.slice none 0 0,.slice none 0 0,.slice none 0 0,.slice none 0 0] 43)=W3 from hW3.out]
 go_wp2_with (refine wpList_store_row rfl 43 (.tmp 6) (.tmp 11) rfl (w.heap.size+1+1) _ rfl rfl 43 _ (Blk.eq hR4.out) infoX13 rfl (by simp[Value.oneCell']) ?_)
 rw[hs3.out]
 have hfin:Blk ((W3.alloc (.cells #[.int .i64 o1,.string s1,.int .i64 k2,.bool b1,.int .i64 n1,.string s2,.string s3,.slice e1 e2 e3,.bool f1,.slice e4 e5 e6,.slice e7 e8 e9,.slice d1 d2 d3,.slice d4 d5 d6,.int .i64 p1,.string q1,.int .i64 l2,.bool c1,.int .i64 m1,.string q2,.string q3,.slice g1 g2 g3,.bool h1,.slice g4 g5 g6,.slice g7 g8 g9,.slice j1 j2 j3,.slice j4 j5 j6] 43)).setRow (w.heap.size+1+1) #[.int .i64 op,.string ⟨#[]⟩,.int .i64 0,.bool false,.int .i64 0,.string ⟨#[]⟩,.string ⟨#[]⟩,.slice none 0 0,.bool false,.slice (some ⟨w.heap.size+3,0,none⟩) 2 2,.slice none 0 0,.slice none 0 0,.slice none 0 0]) (w.heap.size+1+1) #[.int .i64 op,.string ⟨#[]⟩,.int .i64 0,.bool false,.int .i64 0,.string ⟨#[]⟩,.string ⟨#[]⟩,.slice none 0 0,.bool false,.slice (some ⟨w.heap.size+3,0,none⟩) 2 2,.slice none 0 0,.slice none 0 0,.slice none 0 0] 43:=hR4.out.setRow
 have hbf:=setRow_under hB4.out (g:=w.heap.size+1+1) (by omega) #[.int .i64 op,.string ⟨#[]⟩,.int .i64 0,.bool false,.int .i64 0,.string ⟨#[]⟩,.string ⟨#[]⟩,.slice none 0 0,.bool false,.slice (some ⟨w.heap.size+3,0,none⟩) 2 2,.slice none 0 0,.slice none 0 0,.slice none 0 0]
 have hq5:Blk ((W3.alloc (.cells #[.int .i64 o1,.string s1,.int .i64 k2,.bool b1,.int .i64 n1,.string s2,.string s3,.slice e1 e2 e3,.bool f1,.slice e4 e5 e6,.slice e7 e8 e9,.slice d1 d2 d3,.slice d4 d5 d6,.int .i64 p1,.string q1,.int .i64 l2,.bool c1,.int .i64 m1,.string q2,.string q3,.slice g1 g2 g3,.bool h1,.slice g4 g5 g6,.slice g7 g8 g9,.slice j1 j2 j3,.slice j4 j5 j6] 43)).setRow (w.heap.size+1+1) #[.int .i64 op,.string ⟨#[]⟩,.int .i64 0,.bool false,.int .i64 0,.string ⟨#[]⟩,.string ⟨#[]⟩,.slice none 0 0,.bool false,.slice (some ⟨w.heap.size+3,0,none⟩) 2 2,.slice none 0 0,.slice none 0 0,.slice none 0 0]) (w.heap.size+3) #[.int .i64 o1,.string s1,.int .i64 k2,.bool b1,.int .i64 n1,.string s2,.string s3,.slice e1 e2 e3,.bool f1,.slice e4 e5 e6,.slice e7 e8 e9,.slice d1 d2 d3,.slice d4 d5 d6,.int .i64 p1,.string q1,.int .i64 l2,.bool c1,.int .i64 m1,.string q2,.string q3,.slice g1 g2 g3,.bool h1,.slice g4 g5 g6,.slice g7 g8 g9,.slice j1 j2 j3,.slice j4 j5 j6] 43:=hq4.out.setRow_other (by omega)
 have hst:Below w.heap.size w ((W3.alloc (.cells #[.int .i64 o1,.string s1,.int .i64 k2,.bool b1,.int .i64 n1,.string s2,.string s3,.slice e1 e2 e3,.bool f1,.slice e4 e5 e6,.slice e7 e8 e9,.slice d1 d2 d3,.slice d4 d5 d6,.int .i64 p1,.string q1,.int .i64 l2,.bool c1,.int .i64 m1,.string q2,.string q3,.slice g1 g2 g3,.bool h1,.slice g4 g5 g6,.slice g7 g8 g9,.slice j1 j2 j3,.slice j4 j5 j6] 43)).setRow (w.heap.size+1+1) #[.int .i64 op,.string ⟨#[]⟩,.int .i64 0,.bool false,.int .i64 0,.string ⟨#[]⟩,.string ⟨#[]⟩,.slice none 0 0,.bool false,.slice (some ⟨w.heap.size+3,0,none⟩) 2 2,.slice none 0 0,.slice none 0 0,.slice none 0 0]):=hbf
 have hxa:=ha.out.stay hst
 have hxb:=hb.out.stay hst
 have hxs:XS ((W3.alloc (.cells #[.int .i64 o1,.string s1,.int .i64 k2,.bool b1,.int .i64 n1,.string s2,.string s3,.slice e1 e2 e3,.bool f1,.slice e4 e5 e6,.slice e7 e8 e9,.slice d1 d2 d3,.slice d4 d5 d6,.int .i64 p1,.string q1,.int .i64 l2,.bool c1,.int .i64 m1,.string q2,.string q3,.slice g1 g2 g3,.bool h1,.slice g4 g5 g6,.slice g7 g8 g9,.slice j1 j2 j3,.slice j4 j5 j6] 43)).setRow (w.heap.size+1+1) #[.int .i64 op,.string ⟨#[]⟩,.int .i64 0,.bool false,.int .i64 0,.string ⟨#[]⟩,.string ⟨#[]⟩,.slice none 0 0,.bool false,.slice (some ⟨w.heap.size+3,0,none⟩) 2 2,.slice none 0 0,.slice none 0 0,.slice none 0 0]) 1048576 (.slice (some ⟨w.heap.size+3,0,none⟩) [xa,xb].length 2) [xa,xb]:=.mk _ 2 [xa,xb] (by simp) (fun j hj=>by
  rcases(by simp at hj;omega:j=0∨j=1) with rfl|rfl
  ·exact xc_mk (cs:=#[.int .i64 o1,.string s1,.int .i64 k2,.bool b1,.int .i64 n1,.string s2,.string s3,.slice e1 e2 e3,.bool f1,.slice e4 e5 e6,.slice e7 e8 e9,.slice d1 d2 d3,.slice d4 d5 d6]) ⟨hq5.lt,fun i hi=>by
    simp only[Nat.mul_zero,Nat.zero_add]
    rcases(by omega:i=0∨i=1∨i=2∨i=3∨i=4∨i=5∨i=6∨i=7∨i=8∨i=9∨i=10∨i=11∨i=12) with rfl|rfl|rfl|rfl|rfl|rfl|rfl|rfl|rfl|rfl|rfl|rfl|rfl
    all_goals exact hq5.cell _ rfl⟩ hxa
  ·exact xc_mk (cs:=#[.int .i64 p1,.string q1,.int .i64 l2,.bool c1,.int .i64 m1,.string q2,.string q3,.slice g1 g2 g3,.bool h1,.slice g4 g5 g6,.slice g7 g8 g9,.slice j1 j2 j3,.slice j4 j5 j6]) ⟨hq5.lt,fun i hi=>by
    simp only[Nat.mul_one,Nat.zero_add]
    rcases(by omega:i=0∨i=1∨i=2∨i=3∨i=4∨i=5∨i=6∨i=7∨i=8∨i=9∨i=10∨i=11∨i=12) with rfl|rfl|rfl|rfl|rfl|rfl|rfl|rfl|rfl|rfl|rfl|rfl|rfl
    all_goals exact hq5.cell _ rfl⟩ hxb)
 generalize (W3.alloc (.cells #[.int .i64 o1,.string s1,.int .i64 k2,.bool b1,.int .i64 n1,.string s2,.string s3,.slice e1 e2 e3,.bool f1,.slice e4 e5 e6,.slice e7 e8 e9,.slice d1 d2 d3,.slice d4 d5 d6,.int .i64 p1,.string q1,.int .i64 l2,.bool c1,.int .i64 m1,.string q2,.string q3,.slice g1 g2 g3,.bool h1,.slice g4 g5 g6,.slice g7 g8 g9,.slice j1 j2 j3,.slice j4 j5 j6] 43)).setRow (w.heap.size+1+1) #[.int .i64 op,.string ⟨#[]⟩,.int .i64 0,.bool false,.int .i64 0,.string ⟨#[]⟩,.string ⟨#[]⟩,.slice none 0 0,.bool false,.slice (some ⟨w.heap.size+3,0,none⟩) 2 2,.slice none 0 0,.slice none 0 0,.slice none 0 0]=w9 at *
 go_wp2
 exact bodyPost_ret (v:=.agg #[.int .i64 op,.string ⟨#[]⟩,.int .i64 0,.bool false,.int .i64 0,.string ⟨#[]⟩,.string ⟨#[]⟩,.slice none 0 0,.bool false,.slice (some ⟨w.heap.size+3,0,none⟩) 2 2,.slice none 0 0,.slice none 0 0,.slice none 0 0]) (results_cell_row rfl _ _ (w.heap.size+1+1) 43 _ (0,0) _ rfl hfin.eq Tryz.underlying43 rfl infoX13) rfl ⟨_,rfl,hbf,.mk op ⟨#[]⟩ 0 false 0 ⟨#[]⟩ ⟨#[]⟩ (.slice none 0 0) [] false (some ⟨w.heap.size+3,0,none⟩) 2 [xa,xb] none 0 [] none 0 0 none 0 0 hop zero_le_N ⟨by omega,by omega⟩ ⟨by omega,by omega⟩ zero_le_N zero_le_N (la_nil _ _) hxs (ps_nil _ _) (Nat.zero_le _) (Nat.zero_le _)⟩
end Go.Proofs.YtcaeipdgbaligaaGreatDoor.ex
