/- Texts XZero, XEvZ, one behind the other. -/
import Derived.Test.YtcaeipdgbaligaaGreatDoorXTwo
set_option linter.unusedSimpArgs false
set_option linter.unusedVariables false
set_option maxHeartbeats 4000000
namespace Go.Proofs.YtcaeipdgbaligaaGreatDoor.ex
open Go.ChangeShapes Go.WideShapes Go.ChangeAt Go.RowKit kit dec val tab logic
set_option maxRecDepth 100000
theorem xints0(w:World)(lang:Int):Calls Tryz.prog 69 #[.int .i64 lang,.int .i64 20,.int .i64 1,.int .i64 0] w fun e w'=>e=.returned (.tuple #[.agg #[.int .i64 0,.bool false,.int .i64 0,.string ⟨#[]⟩,.string ⟨#[]⟩,.slice none 0 0],.int .i64 3])∧Below w.heap.size w w':=by
 have hq:=Blk.new w #[.int .i64 0,.bool false,.int .i64 0,.string ⟨#[]⟩,.string ⟨#[]⟩,.slice none 0 0] 38
 have hal:Below w.heap.size w (w.alloc (.cells #[.int .i64 0,.bool false,.int .i64 0,.string ⟨#[]⟩,.string ⟨#[]⟩,.slice none 0 0] 38)):=(Below.refl _ _).alloc (Nat.le_refl _) _
 replace hq:=Hd hq
 replace hal:=Hd hal
 go_enter Tryz.func69,Tryz.ntmps69
 go_wp2
 exact bodyPost_ret (v:=.tuple #[.agg #[.int .i64 0,.bool false,.int .i64 0,.string ⟨#[]⟩,.string ⟨#[]⟩,.slice none 0 0],.int .i64 3]) (res2 rfl _ _ w.heap.size 38 _ (0,0) _ _ rfl rfl hq.out.eq Tryz.underlying38 rfl infoV6) rfl ⟨rfl,hal.out⟩
theorem num_may(n:Int):mayV (.mk 2 false n ⟨#[]⟩ ⟨#[]⟩ [])=true:=by
 unfold mayV
 show chkW _ _=_
 simp[chkW,emp]
 rfl
theorem xnumber2(w:World)(n:Int)(ao:Option Addr)(cap:Nat):Calls Tryz.prog 68 #[.agg #[.int .i64 2,.bool false,.int .i64 n,.string ⟨#[]⟩,.string ⟨#[]⟩,.slice ao 0 cap]] w fun e w'=>e=.returned (.bool true)∧Below w.heap.size w w':=by
 have hq:=Blk.new w #[.int .i64 2,.bool false,.int .i64 n,.string ⟨#[]⟩,.string ⟨#[]⟩,.slice ao 0 cap] 38
 have hal:Below w.heap.size w (w.alloc (.cells #[.int .i64 2,.bool false,.int .i64 n,.string ⟨#[]⟩,.string ⟨#[]⟩,.slice ao 0 cap] 38)):=(Below.refl _ _).alloc (Nat.le_refl _) _
 have y0:=hq.cell 0 rfl
 replace hal:=Hd hal
 clear hq
 go_enter Tryz.func68,Tryz.ntmps68
 go_wp2
 go_ret
 exact⟨rfl,hal.out⟩
theorem xarith0(w:World)(hE:Env w)(lang:Int)(hlang:lang=0∨lang=1)(ao ao2:Option Addr)(cap cap2:Nat)(ha:LA w 1048576 (.slice ao 0 cap) [])(ha2:LA w 1048576 (.slice ao2 0 cap2) []):
 Calls Tryz.prog 43 #[.int .i64 lang,.int .i64 20,.agg #[.int .i64 2,.bool false,.int .i64 1,.string ⟨#[]⟩,.string ⟨#[]⟩,.slice ao 0 cap],.agg #[.int .i64 2,.bool false,.int .i64 0,.string ⟨#[]⟩,.string ⟨#[]⟩,.slice ao2 0 cap2]] w fun e w'=>e=.returned (.tuple #[.agg #[.int .i64 0,.bool false,.int .i64 0,.string ⟨#[]⟩,.string ⟨#[]⟩,.slice none 0 0],.int .i64 3])∧Below w.heap.size w w':=by
 obtain⟨W,hW⟩:∃W,((w.alloc (.cells #[.int .i64 2,.bool false,.int .i64 1,.string ⟨#[]⟩,.string ⟨#[]⟩,.slice ao 0 cap] 38)).alloc (.cells #[.int .i64 2,.bool false,.int .i64 0,.string ⟨#[]⟩,.string ⟨#[]⟩,.slice ao2 0 cap2] 38)).alloc (.cells #[.int .i64 0,.bool false,.int .i64 0,.string ⟨#[]⟩,.string ⟨#[]⟩,.slice none 0 0] 38)=W:=⟨_,rfl⟩
 have hB:Below w.heap.size w W:=by
  rw[←hW]
  exact(((Below.refl _ _).alloc (Nat.le_refl _) _).alloc (by simp only[World.size_alloc];omega) _).alloc (by simp only[World.size_alloc];omega) _
 have hA:Blk W w.heap.size #[.int .i64 2,.bool false,.int .i64 1,.string ⟨#[]⟩,.string ⟨#[]⟩,.slice ao 0 cap] 38:=by rw[←hW];exact((Blk.new _ _ _).alloc _).alloc _
 have hBk:Blk W (w.heap.size+1) #[.int .i64 2,.bool false,.int .i64 0,.string ⟨#[]⟩,.string ⟨#[]⟩,.slice ao2 0 cap2] 38:=by
  rw[←hW]
  have:=Blk.new (w.alloc (.cells #[.int .i64 2,.bool false,.int .i64 1,.string ⟨#[]⟩,.string ⟨#[]⟩,.slice ao 0 cap] 38)) #[.int .i64 2,.bool false,.int .i64 0,.string ⟨#[]⟩,.string ⟨#[]⟩,.slice ao2 0 cap2] 38
  rw[World.size_alloc]at this
  exact this.alloc _
 have hR:Blk W (w.heap.size+1+1) #[.int .i64 0,.bool false,.int .i64 0,.string ⟨#[]⟩,.string ⟨#[]⟩,.slice none 0 0] 38:=by
  rw[←hW]
  have:=Blk.new ((w.alloc (.cells #[.int .i64 2,.bool false,.int .i64 1,.string ⟨#[]⟩,.string ⟨#[]⟩,.slice ao 0 cap] 38)).alloc (.cells #[.int .i64 2,.bool false,.int .i64 0,.string ⟨#[]⟩,.string ⟨#[]⟩,.slice ao2 0 cap2] 38)) #[.int .i64 0,.bool false,.int .i64 0,.string ⟨#[]⟩,.string ⟨#[]⟩,.slice none 0 0] 38
  rw[World.size_alloc,World.size_alloc]at this
  exact this
 have cA:=fun V (h:Below w.heap.size w V)=>check_any 1048576 (by omega) V (hE.below h) 2 false 1 ⟨#[]⟩ ⟨#[]⟩ _ [] (ha.stay h) zero_le_N zero_le_N
 have cB:=fun V (h:Below w.heap.size w V)=>check_any 1048576 (by omega) V (hE.below h) 2 false 0 ⟨#[]⟩ ⟨#[]⟩ _ [] (ha2.stay h) zero_le_N zero_le_N
 rw[num_may]at cA cB
 unfold agg6 at cA cB
 have y0:=hA.cell 0 rfl
 have y1:=hA.cell 1 rfl
 have y2:=hA.cell 2 rfl
 have y3:=hA.cell 3 rfl
 have y4:=hA.cell 4 rfl
 have y5:=hA.cell 5 rfl
 have q0:=hBk.cell 0 rfl
 have q1:=hBk.cell 1 rfl
 have q2:=hBk.cell 2 rfl
 have q3:=hBk.cell 3 rfl
 have q4:=hBk.cell 4 rfl
 have q5:=hBk.cell 5 rfl
 have cA1:=Hd (cA W hB)
 replace hW:=Hd hW
 replace hB:=Hd hB
 replace hA:=Hd hA
 replace hBk:=Hd hBk
 replace hR:=Hd hR
 replace cB:=Hd cB
 clear cA
 have hl1:(lang==1)=false∨(lang==1)=true:=by rcases hlang with rfl|rfl<;>simp
 have hlc:=Hd hlang
 clear hl1 hlang ha ha2
 go_enter Tryz.func43,Tryz.ntmps43
 go_upto_region 1 with fail
 rw[show((w.alloc (.cells #[.int .i64 2,.bool false,.int .i64 1,.string ⟨#[]⟩,.string ⟨#[]⟩,.slice ao 0 cap] 38)).alloc (.cells #[.int .i64 2,.bool false,.int .i64 0,.string ⟨#[]⟩,.string ⟨#[]⟩,.slice ao2 0 cap2] 38)).alloc (.cells #[.int .i64 0,.bool false,.int .i64 0,.string ⟨#[]⟩,.string ⟨#[]⟩,.slice none 0 0] 38)=W from hW.out]
 go_wp2_with fail
 refine cA1.out.mono ?_
 rintro e w2 ⟨rfl,hb2⟩
 have hA2:Blk w2 w.heap.size _ _:=(hb2.block _ hA.out.lt).trans hA.out
 have hBk2:Blk w2 (w.heap.size+1) _ _:=(hb2.block _ hBk.out.lt).trans hBk.out
 have hR2:Blk w2 (w.heap.size+1+1) #[.int .i64 0,.bool false,.int .i64 0,.string ⟨#[]⟩,.string ⟨#[]⟩,.slice none 0 0] 38:=(hb2.block _ hR.out.lt).trans hR.out
 have hB2:=Hd (hB.out.trans (hb2.mono hB.out.size))
 have cB2:=Hd (cB.out w2 hB2.out)
 clear y0 y1 y2 y3 y4 y5 q0 q1 q2 q3 q4 q5
 have y0:=hA2.cell 0 rfl
 have y1:=hA2.cell 1 rfl
 have y2:=hA2.cell 2 rfl
 have y3:=hA2.cell 3 rfl
 have y4:=hA2.cell 4 rfl
 have y5:=hA2.cell 5 rfl
 have q0:=hBk2.cell 0 rfl
 have q1:=hBk2.cell 1 rfl
 have q2:=hBk2.cell 2 rfl
 have q3:=hBk2.cell 3 rfl
 have q4:=hBk2.cell 4 rfl
 have q5:=hBk2.cell 5 rfl
 replace hA2:=Hd hA2
 replace hBk2:=Hd hBk2
 replace hR2:=Hd hR2
 clear hb2 cA1 cB hA hBk hR hB
 go_wp2_with fail
 refine cB2.out.mono ?_
 rintro e w3 ⟨rfl,hb3⟩
 have hA3:Blk w3 w.heap.size _ _:=(hb3.block _ hA2.out.lt).trans hA2.out
 have hBk3:Blk w3 (w.heap.size+1) _ _:=(hb3.block _ hBk2.out.lt).trans hBk2.out
 have hR3:Blk w3 (w.heap.size+1+1) #[.int .i64 0,.bool false,.int .i64 0,.string ⟨#[]⟩,.string ⟨#[]⟩,.slice none 0 0] 38:=(hb3.block _ hR2.out.lt).trans hR2.out
 have hB3:=Hd (hB2.out.trans (hb3.mono hB2.out.size))
 clear y0 y1 y2 y3 y4 y5 q0 q1 q2 q3 q4 q5
 have y0:=hA3.cell 0 rfl
 have y1:=hA3.cell 1 rfl
 have y2:=hA3.cell 2 rfl
 have y3:=hA3.cell 3 rfl
 have y4:=hA3.cell 4 rfl
 have y5:=hA3.cell 5 rfl
 have q0:=hBk3.cell 0 rfl
 have q1:=hBk3.cell 1 rfl
 have q2:=hBk3.cell 2 rfl
 have q3:=hBk3.cell 3 rfl
 have q4:=hBk3.cell 4 rfl
 have q5:=hBk3.cell 5 rfl
 replace hA3:=Hd hA3
 replace hBk3:=Hd hBk3
 replace hR3:=Hd hR3
 clear hb3 cB2 hA2 hBk2 hR2 hB2
 have hlc2:=hlc.out
 rcases hlc2 with rfl|rfl
 all_goals
  go_wp2_with fail
  refine(xnumber2 _ _ _ _).mono ?_
  rintro e w4 ⟨rfl,hb4⟩
  have hA4:Blk w4 w.heap.size _ _:=(hb4.block _ hA3.out.lt).trans hA3.out
  have hBk4:Blk w4 (w.heap.size+1) _ _:=(hb4.block _ hBk3.out.lt).trans hBk3.out
  have hR4:Blk w4 (w.heap.size+1+1) #[.int .i64 0,.bool false,.int .i64 0,.string ⟨#[]⟩,.string ⟨#[]⟩,.slice none 0 0] 38:=(hb4.block _ hR3.out.lt).trans hR3.out
  have hB4:=Hd (hB3.out.trans (hb4.mono hB3.out.size))
  clear y0 y1 y2 y3 y4 y5 q0 q1 q2 q3 q4 q5
  have y0:=hA4.cell 0 rfl
  have y1:=hA4.cell 1 rfl
  have y2:=hA4.cell 2 rfl
  have y3:=hA4.cell 3 rfl
  have y4:=hA4.cell 4 rfl
  have y5:=hA4.cell 5 rfl
  have q0:=hBk4.cell 0 rfl
  have q1:=hBk4.cell 1 rfl
  have q2:=hBk4.cell 2 rfl
  have q3:=hBk4.cell 3 rfl
  have q4:=hBk4.cell 4 rfl
  have q5:=hBk4.cell 5 rfl
  replace hA4:=Hd hA4
  replace hBk4:=Hd hBk4
  replace hR4:=Hd hR4
  clear hb4 hA3 hBk3 hR3 hB3
  go_wp2_with fail
  refine(xnumber2 _ _ _ _).mono ?_
  rintro e w5 ⟨rfl,hb5⟩
  have hA5:Blk w5 w.heap.size _ _:=(hb5.block _ hA4.out.lt).trans hA4.out
  have hBk5:Blk w5 (w.heap.size+1) _ _:=(hb5.block _ hBk4.out.lt).trans hBk4.out
  have hR5:Blk w5 (w.heap.size+1+1) #[.int .i64 0,.bool false,.int .i64 0,.string ⟨#[]⟩,.string ⟨#[]⟩,.slice none 0 0] 38:=(hb5.block _ hR4.out.lt).trans hR4.out
  have hB5:=Hd (hB4.out.trans (hb5.mono hB4.out.size))
  clear y0 y1 y2 y3 y4 y5 q0 q1 q2 q3 q4 q5
  have y0:=hA5.cell 0 rfl
  have y1:=hA5.cell 1 rfl
  have y2:=hA5.cell 2 rfl
  have y3:=hA5.cell 3 rfl
  have y4:=hA5.cell 4 rfl
  have y5:=hA5.cell 5 rfl
  have q0:=hBk5.cell 0 rfl
  have q1:=hBk5.cell 1 rfl
  have q2:=hBk5.cell 2 rfl
  have q3:=hBk5.cell 3 rfl
  have q4:=hBk5.cell 4 rfl
  have q5:=hBk5.cell 5 rfl
  replace hR5:=Hd hR5
  clear hb5 hA4 hBk4 hR4 hB4 hA5 hBk5
  go_wp2_with fail
  refine(xints0 _ _).mono ?_
  rintro e w6 ⟨rfl,hb6⟩
  have hR6:Blk w6 (w.heap.size+1+1) #[.int .i64 0,.bool false,.int .i64 0,.string ⟨#[]⟩,.string ⟨#[]⟩,.slice none 0 0] 38:=(hb6.block _ hR5.out.lt).trans hR5.out
  have hB6:=Hd (hB5.out.trans (hb6.mono hB5.out.size))
  clear y0 y1 y2 y3 y4 y5 q0 q1 q2 q3 q4 q5
  have v0:=hR6.cell 0 rfl
  have v1:=hR6.cell 1 rfl
  have v2:=hR6.cell 2 rfl
  have v3:=hR6.cell 3 rfl
  have v4:=hR6.cell 4 rfl
  have v5:=hR6.cell 5 rfl
  have f1:=hR6.free
  replace hR6:=Hd hR6
  clear hb6 hR5 hB5
  go_wp2
  have hfin:=Blk.set6 hR6.out (.int .i64 0) (.bool false) (.int .i64 0) (.string ⟨#[]⟩) (.string ⟨#[]⟩) (.slice none 0 0)
  have hbf:=Below.set6 hB6.out (b:=w.heap.size+1+1) (by omega) (.int .i64 0) (.bool false) (.int .i64 0) (.string ⟨#[]⟩) (.string ⟨#[]⟩) (.slice none 0 0)
  exact bodyPost_ret (v:=.tuple #[.agg #[.int .i64 0,.bool false,.int .i64 0,.string ⟨#[]⟩,.string ⟨#[]⟩,.slice none 0 0],.int .i64 3]) (res2 rfl _ _ (w.heap.size+1+1) 38 _ (0,0) _ _ rfl rfl hfin.eq Tryz.underlying38 rfl infoV6) rfl ⟨rfl,hbf⟩
end Go.Proofs.YtcaeipdgbaligaaGreatDoor.ex
set_option linter.unusedSimpArgs false
set_option linter.unusedVariables false
set_option maxHeartbeats 8000000
namespace Go.Proofs.YtcaeipdgbaligaaGreatDoor.ex
open Go.ChangeShapes Go.WideShapes Go.ChangeAt Go.RowKit kit dec val tab logic
open hyp (RowA TextsA textsV textsV_length news_one own_row)
set_option maxRecDepth 100000
theorem sing_div(tx:ByteArray)(kk:Int)(bb:Bool)(nn:Int)(t2 u2:ByteArray)(a1:Option Addr)(a2 a3:Nat)(f:Bool)(aa:Option Addr)(argn ca:Nat)(ap:Option Addr)(plan cp:Nat)(am:Option Addr)(mt cm:Nat)(ag:Option Addr)(gp cg:Nat)(w:World)(xv:Value):Calls Tryz.prog 36 #[xv,.agg #[.int .i64 20,.string tx,.int .i64 kk,.bool bb,.int .i64 nn,.string t2,.string u2,.slice a1 a2 a3,.bool f,.slice aa argn ca,.slice ap plan cp,.slice am mt cm,.slice ag gp cg]] w (NoP w):=by
 have hq0:=(Blk.new w #[.int .i64 20,.string tx,.int .i64 kk,.bool bb,.int .i64 nn,.string t2,.string u2,.slice a1 a2 a3,.bool f,.slice aa argn ca,.slice ap plan cp,.slice am mt cm,.slice ag gp cg] 43).alloc (.cells #[.int .i64 0,.bool false,.int .i64 0,.string ⟨#[]⟩,.string ⟨#[]⟩,.slice none 0 0] 38)
 have hq1:=Blk.new (w.alloc (.cells #[.int .i64 20,.string tx,.int .i64 kk,.bool bb,.int .i64 nn,.string t2,.string u2,.slice a1 a2 a3,.bool f,.slice aa argn ca,.slice ap plan cp,.slice am mt cm,.slice ag gp cg] 43)) #[.int .i64 0,.bool false,.int .i64 0,.string ⟨#[]⟩,.string ⟨#[]⟩,.slice none 0 0] 38
 rw[World.size_alloc]at hq1
 have hal:Below w.heap.size w ((w.alloc (.cells #[.int .i64 20,.string tx,.int .i64 kk,.bool bb,.int .i64 nn,.string t2,.string u2,.slice a1 a2 a3,.bool f,.slice aa argn ca,.slice ap plan cp,.slice am mt cm,.slice ag gp cg] 43)).alloc (.cells #[.int .i64 0,.bool false,.int .i64 0,.string ⟨#[]⟩,.string ⟨#[]⟩,.slice none 0 0] 38)):=((Below.refl _ _).alloc (Nat.le_refl _) _).alloc (by rw[World.size_alloc];omega) _
 have x0:=hq0.cell 0 rfl
 replace hq1:=Hd hq1
 replace hal:=Hd hal
 clear hq0
 go_enter Tryz.func36,Tryz.ntmps36
 go_wp2
 exact bodyPost_ret (v:=.tuple #[.agg #[.int .i64 0,.bool false,.int .i64 0,.string ⟨#[]⟩,.string ⟨#[]⟩,.slice none 0 0],.int .i64 0,.bool false]) (res3 rfl _ _ (w.heap.size+1) 38 _ (0,0) _ _ _ rfl rfl rfl hq1.out.eq Tryz.underlying38 rfl infoV6) rfl ⟨rfl,hal.out⟩
theorem evLit(w:World)(eb:Nat)(v:Value)(k:Int)(b:Bool)(n:Int)(hv:XV w 1048576 v (litX (.mk k b n ⟨#[]⟩ ⟨#[]⟩ []))):Calls Tryz.prog 22 #[.pointer (some ⟨eb,0,none⟩),v] w (EvG (fun u=>u=.mk k b n ⟨#[]⟩ ⟨#[]⟩ []) w):=by
 unfold litX at hv
 generalize hx:X.mk 1 ⟨#[]⟩ (.mk k b n ⟨#[]⟩ ⟨#[]⟩ []) false [] [] 0 0=x at hv
 cases hv with
 | mk op t kk bb nn t2 u2 sv l f aa ca args ap cp plan am mt cm ag gp cg i0 i1 ik i_n i2 i3 hl ha hp hmt hgp =>
  injection hx with e1 e2 e3 e4 e5 e6 e7 e8
  injection e3 with f1 f2 f3 f4 f5 f6
  subst e1 f1 f2 f3 f4 f5 f6
  obtain⟨a1,a3,rfl⟩:=hl.form6
  unfold c13
  exact value_isG 1 t k b n ⟨#[]⟩ ⟨#[]⟩ a1 ([]:List V).length a3 f aa args.length ca ap plan.length cp am mt cm ag gp cg w eb _ fun W hW=>
   sing_litG t k b n ⟨#[]⟩ ⟨#[]⟩ a1 a3 [] f aa args.length ca ap plan.length cp am mt cm ag gp cg W _ (hl.stay hW) ⟨ik,i_n,i2,i3⟩
theorem value_err(op:Int)(tx:ByteArray)(kk:Int)(bb:Bool)(nn:Int)(t2 u2:ByteArray)(a1:Option Addr)(a2 a3:Nat)(f:Bool)(aa:Option Addr)(argn ca:Nat)(ap:Option Addr)(plan cp:Nat)(am:Option Addr)(mt cm:Nat)(ag:Option Addr)(gp cg:Nat)(w:World)(eb:Nat)(er:Int)(her:er≠0)(cS:∀W,Below w.heap.size w W→Calls Tryz.prog 36 #[.pointer (some ⟨eb,0,none⟩),.agg #[.int .i64 op,.string tx,.int .i64 kk,.bool bb,.int .i64 nn,.string t2,.string u2,.slice a1 a2 a3,.bool f,.slice aa argn ca,.slice ap plan cp,.slice am mt cm,.slice ag gp cg]] W (NoP W))
 (cV:∀W,Below w.heap.size w W→Calls Tryz.prog 37 #[.pointer (some ⟨eb,0,none⟩),.slice aa argn ca] W fun e w'=>e=.returned (.tuple #[.slice none 0 0,.int .i64 er])∧Below W.heap.size W w'):
 Calls Tryz.prog 22 #[.pointer (some ⟨eb,0,none⟩),.agg #[.int .i64 op,.string tx,.int .i64 kk,.bool bb,.int .i64 nn,.string t2,.string u2,.slice a1 a2 a3,.bool f,.slice aa argn ca,.slice ap plan cp,.slice am mt cm,.slice ag gp cg]] w (EvE er w):=by
 have hq0:=(Blk.new w #[.int .i64 op,.string tx,.int .i64 kk,.bool bb,.int .i64 nn,.string t2,.string u2,.slice a1 a2 a3,.bool f,.slice aa argn ca,.slice ap plan cp,.slice am mt cm,.slice ag gp cg] 43).alloc (.cells #[.int .i64 0,.bool false,.int .i64 0,.string ⟨#[]⟩,.string ⟨#[]⟩,.slice none 0 0] 38)
 have hq1:=Blk.new (w.alloc (.cells #[.int .i64 op,.string tx,.int .i64 kk,.bool bb,.int .i64 nn,.string t2,.string u2,.slice a1 a2 a3,.bool f,.slice aa argn ca,.slice ap plan cp,.slice am mt cm,.slice ag gp cg] 43)) #[.int .i64 0,.bool false,.int .i64 0,.string ⟨#[]⟩,.string ⟨#[]⟩,.slice none 0 0] 38
 rw[World.size_alloc]at hq1
 have hal:Below w.heap.size w ((w.alloc (.cells #[.int .i64 op,.string tx,.int .i64 kk,.bool bb,.int .i64 nn,.string t2,.string u2,.slice a1 a2 a3,.bool f,.slice aa argn ca,.slice ap plan cp,.slice am mt cm,.slice ag gp cg] 43)).alloc (.cells #[.int .i64 0,.bool false,.int .i64 0,.string ⟨#[]⟩,.string ⟨#[]⟩,.slice none 0 0] 38)):=((Below.refl _ _).alloc (Nat.le_refl _) _).alloc (by rw[World.size_alloc];omega) _
 have hsz:((w.alloc (.cells #[.int .i64 op,.string tx,.int .i64 kk,.bool bb,.int .i64 nn,.string t2,.string u2,.slice a1 a2 a3,.bool f,.slice aa argn ca,.slice ap plan cp,.slice am mt cm,.slice ag gp cg] 43)).alloc (.cells #[.int .i64 0,.bool false,.int .i64 0,.string ⟨#[]⟩,.string ⟨#[]⟩,.slice none 0 0] 38)).heap.size=w.heap.size+2:=by simp only[World.size_alloc]
 have cC:=Hd (cS _ hal)
 have t0:=hq0.cell 0 rfl
 have t1:=hq0.cell 1 rfl
 have t2a:=hq0.cell 2 rfl
 have t3:=hq0.cell 3 rfl
 have t4:=hq0.cell 4 rfl
 have t5:=hq0.cell 5 rfl
 have t6:=hq0.cell 6 rfl
 have t7:=hq0.cell 7 rfl
 have t8:=hq0.cell 8 rfl
 have t9:=hq0.cell 9 rfl
 have t10:=hq0.cell 10 rfl
 have t11:=hq0.cell 11 rfl
 have t12:=hq0.cell 12 rfl
 replace hq0:=Hd hq0
 replace hq1:=Hd hq1
 replace hal:=Hd hal
 replace hsz:=Hd hsz
 clear cS
 have hern:(er==0)=false:=beq_eq_false_iff_ne.2 her
 replace cV:=Hd cV
 go_enter Tryz.func22,Tryz.ntmps22
 go_wp2_with fail
 refine cC.out.mono ?_
 rintro e w3 ⟨rfl,hb3⟩
 have hal6:Below w3.heap.size w3 (w3.alloc (.cells #[.int .i64 0,.bool false,.int .i64 0,.string ⟨#[]⟩,.string ⟨#[]⟩,.slice none 0 0] 38)):=(Below.refl _ _).alloc (Nat.le_refl _) _
 have hq03:Blk w3 w.heap.size #[.int .i64 op,.string tx,.int .i64 kk,.bool bb,.int .i64 nn,.string t2,.string u2,.slice a1 a2 a3,.bool f,.slice aa argn ca,.slice ap plan cp,.slice am mt cm,.slice ag gp cg] 43:=(hb3.block _ hq0.out.lt).trans hq0.out
 have hq13:Blk w3 (w.heap.size+1) #[.int .i64 0,.bool false,.int .i64 0,.string ⟨#[]⟩,.string ⟨#[]⟩,.slice none 0 0] 38:=(hb3.block _ hq1.out.lt).trans hq1.out
 have hq04:=hq03.alloc (.cells #[.int .i64 0,.bool false,.int .i64 0,.string ⟨#[]⟩,.string ⟨#[]⟩,.slice none 0 0] 38)
 have hq14:=hq13.alloc (.cells #[.int .i64 0,.bool false,.int .i64 0,.string ⟨#[]⟩,.string ⟨#[]⟩,.slice none 0 0] 38)
 have hB3:=hal.out.trans (hb3.mono hal.out.size)
 have hB4:=hB3.trans (hal6.mono hB3.size)
 have cV4:=Hd (cV.out _ hB4)
 clear t0 t1 t2a t3 t4 t5 t6 t7 t8 t9 t10 t11 t12
 have x9:=hq04.cell 9 rfl
 replace hq14:=Hd hq14
 replace hB4:=Hd hB4
 clear cC cV hb3 hq1 hq0 hB3 hq13 hq03 hal6 hq04
 go_wp2_with fail
 refine cV4.out.mono ?_
 rintro e w5 ⟨rfl,hb5⟩
 have hq15:Blk w5 (w.heap.size+1) #[.int .i64 0,.bool false,.int .i64 0,.string ⟨#[]⟩,.string ⟨#[]⟩,.slice none 0 0] 38:=(hb5.block _ hq14.out.lt).trans hq14.out
 have hB5:=Hd (hB4.out.trans (hb5.mono hB4.out.size))
 clear x9 cV4 hb5
 have v0:=hq15.cell 0 rfl
 have v1:=hq15.cell 1 rfl
 have v2:=hq15.cell 2 rfl
 have v3:=hq15.cell 3 rfl
 have v4:=hq15.cell 4 rfl
 have v5:=hq15.cell 5 rfl
 have f1:=hq15.free
 replace hq15:=Hd hq15
 go_wp2
 have hfin:=Blk.set6 hq15.out (.int .i64 0) (.bool false) (.int .i64 0) (.string ⟨#[]⟩) (.string ⟨#[]⟩) (.slice none 0 0)
 have hbf:=Below.set6 hB5.out (b:=w.heap.size+1) (Nat.le_succ _) (.int .i64 0) (.bool false) (.int .i64 0) (.string ⟨#[]⟩) (.string ⟨#[]⟩) (.slice none 0 0)
 exact bodyPost_ret (v:=.tuple #[.agg #[.int .i64 0,.bool false,.int .i64 0,.string ⟨#[]⟩,.string ⟨#[]⟩,.slice none 0 0],.int .i64 er]) (res2 rfl _ _ (w.heap.size+1) 38 _ (0,0) _ _ rfl rfl hfin.eq Tryz.underlying38 rfl infoV6) rfl ⟨0,false,0,⟨#[]⟩,⟨#[]⟩,none,0,0,rfl,hbf⟩
theorem two_parts{w:World}{v:Value}{op:Int}{a b:X}(hv:XV w 1048576 v (twoX op a b)):∃tx kk bb nn t2 u2 a1 a2 a3 f aa ca ap plan cp am mt cm ag gp cg,v=.agg (c13 op tx kk bb nn t2 u2 (.slice a1 a2 a3) f (.slice aa 2 ca) (.slice ap plan cp) (.slice am mt cm) (.slice ag gp cg))∧XS w 1048576 (.slice aa [a,b].length ca) [a,b]:=by
 unfold twoX at hv
 generalize hx:X.mk op ⟨#[]⟩ nulV false [a,b] [] 0 0=x at hv
 cases hv with
 |mk op2 t kk bb nn t2 u2 sv l f aa ca args ap cp plan am mt cm ag gp cg i0 i1 ik i_n i2 i3 hl ha hp hmt hgp=>
  injection hx with e1 e2 e3 e4 e5 e6 e7 e8
  subst e1 e5
  obtain⟨a1,a3,rfl⟩:=hl.form6
  exact⟨_,_,_,_,_,_,_,_,_,_,_,_,_,_,_,_,_,_,_,_,_,rfl,ha⟩
theorem evFst(w:World)(eb:Nat)(op:Int)(a b:X)(hop:9≤op∧op≤14)(er:Int)(her:er≠0)(v:Value)(hv:XV w 1048576 v (twoX op a b))(cA:∀W u,Below w.heap.size w W→XV W 1048576 u a→Calls Tryz.prog 22 #[.pointer (some ⟨eb,0,none⟩),u] W (EvE er W)):
 Calls Tryz.prog 22 #[.pointer (some ⟨eb,0,none⟩),v] w (EvE er w):=by
 obtain⟨tx,kk,bb,nn,t2,u2,a1,a2,a3,f,aa,ca,ap,plan,cp,am,mt,cm,ag,gp,cg,rfl,hs⟩:=two_parts hv
 unfold c13
 refine value_err op tx kk bb nn t2 u2 a1 a2 a3 f aa 2 ca ap plan cp am mt cm ag gp cg w eb er her (fun W hW=>sing_comp op hop tx kk bb nn t2 u2 a1 a2 a3 f aa 2 ca ap plan cp am mt cm ag gp cg W _) fun W hW=>?_
 refine(values_gen [a,b] (fun _ _=>True) 0 er her W eb aa ca (XS.stay hW hs) (fun j hj h=>absurd h (Nat.not_lt_zero j)) (fun hj V u hV hu=>cA V u (hW.trans (hV.mono hW.size)) hu)).mono ?_
 rintro e w' (⟨-,h1,h2⟩|⟨h,-⟩)
 ·exact⟨h1,h2⟩
 ·simp at h
end Go.Proofs.YtcaeipdgbaligaaGreatDoor.ex
