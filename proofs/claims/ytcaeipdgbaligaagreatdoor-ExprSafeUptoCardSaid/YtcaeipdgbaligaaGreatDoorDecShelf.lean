/- Texts XWorld, XJunc, DecEnvD, DecShelf, one behind the other. -/
import Derived.Test.YtcaeipdgbaligaaGreatDoorXMay
import Derived.Ground.MpProg
import Derived.Shelf.Pu.ParseUintPublic10
import Derived.Shelf.Pu.ErrVarParseUint
set_option linter.unusedSimpArgs false
set_option linter.unusedVariables false
set_option maxHeartbeats 4000000
namespace Go.Proofs.YtcaeipdgbaligaaGreatDoor.ex
open Go.ChangeShapes Go.WideShapes Go.ChangeAt Go.RowKit kit dec val tab
open hyp (RowA TextsA textsV textsV_length)
set_option maxRecDepth 100000
def PgP(w:World)(e:Ending)(w':World):Prop:=∃an nn cn ae ne ce,e=.returned (.agg #[.slice an nn cn,.slice ae ne ce])∧Below w.heap.size w w'
def PgT:Prop:=∀(w:World) (nv ev:Value) (gn:List NodeD) (ge:List EdgeD),NodesA w 1048576 nv gn→EdgesG w 1048576 ev ge→Calls Tryz.prog 18 #[.agg #[nv,ev]] w (PgP w)
def WdP(ns:List ByteArray)(vs:List V)(w:World)(e:Ending)(w':World):Prop:=∃p,e=.returned (.pointer (some ⟨p,0,none⟩))∧Below w.heap.size w w'∧EnvM w' p ns (vs.take ns.length)
theorem la_take{w:World}{ao:Option Addr}{cap n:Nat}{l:List V}(h:LA w 1048576 (.slice ao l.length cap) l)(hn:n≤l.length):LA w 1048576 (.slice ao (l.take n).length cap) (l.take n):=by
 generalize hv:Value.slice ao l.length cap=v at h
 cases h with
 |mk ao2 cap2 l2 hl h=>
  injection hv with e1 e2 e3
  subst e1 e3
  refine .mk _ _ _ (by rw[List.length_take];omega) (fun j hj=>?_)
  rw[List.length_take]at hj
  have h1:=h j (by omega)
  rw[List.getElem_take]
  exact h1
theorem world_any(hP:PgT)(w:World)(v:Value)(lang:Int)(xs:List X)(ns:List ByteArray)(vs:List V)(gn:List NodeD)(ge:List EdgeD)(hA:AskM w v lang xs ns vs gn ge)(hle:ns.length≤vs.length):
 Calls Tryz.prog 6 #[v] w (WdP ns vs w):=by
 obtain⟨⟨la,lc,na,nc,va,vc,an,cn,ae,ce,ka,kn,kc,rfl,-,t2,t3,t4,t5,hk,hcap⟩,hnl,-⟩:=hA
 obtain⟨W,hW⟩:∃W,w.alloc (.cells #[.int .i64 lang,.slice la xs.length lc,.slice na ns.length nc,.slice va vs.length vc,.slice an gn.length cn,.slice ae ge.length ce,.slice ka kn kc] 31)=W:=⟨_,rfl⟩
 have hal:Below w.heap.size w W:=by rw[←hW];exact(Below.refl _ _).alloc (Nat.le_refl _) _
 have hq:Blk W w.heap.size #[.int .i64 lang,.slice la xs.length lc,.slice na ns.length nc,.slice va vs.length vc,.slice an gn.length cn,.slice ae ge.length ce,.slice ka kn kc] 31:=by rw[←hW];exact Blk.new _ _ _
 have htl:(vs.take ns.length).length=ns.length:=by rw[List.length_take];omega
 have ht:=Hd (la_take t3 hle)
 have hB:Below w.heap.size w W.drew:=Below_drewN 1 hal
 have hS0:Blk W.drew w.heap.size #[.int .i64 lang,.slice la xs.length lc,.slice na ns.length nc,.slice va vs.length vc,.slice an gn.length cn,.slice ae ge.length ce,.slice ka kn kc] 31:=hq
 have cP:=Hd (hP W.drew _ _ gn ge (t4.stay hB) (t5.stay hB))
 have hkv:ns.length≤vc:=by omega
 replace t2:=Hd t2
 have q0:=hq.cell 0 rfl
 replace hW:=Hd hW
 clear t3 t4 t5 hq hal
 by_cases hl:lang=1
 ·have hlb:(lang==1)=true:=beq_iff_eq.2 hl
  replace hl:=Hd hl
  go_enter Tryz.func6,Tryz.ntmps6
  go_upto_region 1 with fail
  rw[hW.out]
  go_upto_region 4 with fail
  refine wp_region_held_drew (S:=fun V=>Blk V w.heap.size #[.int .i64 lang,.slice la xs.length lc,.slice na ns.length nc,.slice va vs.length vc,.slice an gn.length cn,.slice ae ge.length ce,.slice ka kn kc] 31) (by kernel_rfl) hS0 (fun hS=>?_)
  generalize W.drew=V0 at *
  refine tkS [0,1,2,3,4,5,6,7,8,9,10,12,13] ?_
  iterate 13
   refine tkC ?_ rfl (fun w' hS=>?_) hS ?_
   rotate_left
   ·
    have y2:=hS.cell 2 rfl;have y3:=hS.cell 3 rfl;have y4:=hS.cell 4 rfl;have y5:=hS.cell 5 rfl;have y6:=hS.cell 6 rfl
    go_simp
    try with_reducible rfl
  refine rdH 11 rfl (fun K hK=>?_)
  clear hS
  go_simp
  refine(cP.out).mono ?_
  rintro e w2 ⟨an2,nn2,cn2,ae2,ne2,ce2,rfl,hb2⟩
  go_wp2_with fail
  refine hKo hK ((hb2.block _ hS0.lt).trans hS0) (fun hS=>?_)
  clear hK K
  have hS2:Blk w2 w.heap.size #[.int .i64 lang,.slice la xs.length lc,.slice na ns.length nc,.slice va vs.length vc,.slice an gn.length cn,.slice ae ge.length ce,.slice ka kn kc] 31:=(hb2.block _ hS0.lt).trans hS0
  have hB2:=hB.trans (hb2.mono hB.size)
  refine tkH 14 ?_ rfl (fun w' hS=>?_) hS ?_
  rotate_left
  ·
   skip
   go_simp
   try with_reducible rfl
  refine rdH 15 rfl (fun K hK=>?_)
  clear hS
  go_simp
  go_wp2_with fail
  have hal2:Below w2.heap.size w2 (w2.alloc (.cells #[.int .i64 (lang),.slice na ns.length nc,.slice va ns.length vc,.slice an2 nn2 cn2,.slice ae2 ne2 ce2,.slice ka kn kc] 56)):=(Below.refl _ _).alloc (Nat.le_refl _) _
  have hq2:=Blk.new w2 #[.int .i64 (lang),.slice na ns.length nc,.slice va ns.length vc,.slice an2 nn2 cn2,.slice ae2 ne2 ce2,.slice ka kn kc] 56
  refine hKo hK ((hal2.block _ hS2.lt).trans hS2) (fun hS=>?_)
  clear hK K
  refine tkH 16 ?_ rfl (fun w' hS=>?_) hS ?_
  rotate_left
  ·
   skip
   go_simp
   try with_reducible rfl
  refine wpAnyH_done (by kernel_rfl) ?_ _
  clear hS
  have hB3:=hB2.trans (hal2.mono hB2.size)
  have hf:WdP ns vs w (.returned (.pointer (some ⟨w2.heap.size,0,none⟩))) (w2.alloc (.cells #[.int .i64 (lang),.slice na ns.length nc,.slice va ns.length vc,.slice an2 nn2 cn2,.slice ae2 ne2 ce2,.slice ka kn kc] 56)):=
   ⟨w2.heap.size,rfl,hB3,⟨⟨_,na,nc,va,vc,_,_,_,by rw[htl];exact hq2,TextsA.below t2.out hB3,ht.out.stay hB3⟩,by omega,hnl⟩⟩
  replace hf:=Hd hf
  go_wp2
  go_ret
  exact hf.out
 ·have hlb:(lang==1)=false:=beq_eq_false_iff_ne.2 hl
  go_enter Tryz.func6,Tryz.ntmps6
  go_upto_region 1 with fail
  rw[hW.out]
  go_upto_region 4 with fail
  refine wp_region_held_drew (S:=fun V=>Blk V w.heap.size #[.int .i64 lang,.slice la xs.length lc,.slice na ns.length nc,.slice va vs.length vc,.slice an gn.length cn,.slice ae ge.length ce,.slice ka kn kc] 31) (by kernel_rfl) hS0 (fun hS=>?_)
  generalize W.drew=V0 at *
  refine tkS [0,1,2,3,4,5,6,7,8,9,10,12,13] ?_
  iterate 13
   refine tkC ?_ rfl (fun w' hS=>?_) hS ?_
   rotate_left
   ·
    have y2:=hS.cell 2 rfl;have y3:=hS.cell 3 rfl;have y4:=hS.cell 4 rfl;have y5:=hS.cell 5 rfl;have y6:=hS.cell 6 rfl
    go_simp
    try with_reducible rfl
  refine rdH 11 rfl (fun K hK=>?_)
  clear hS
  go_simp
  refine(cP.out).mono ?_
  rintro e w2 ⟨an2,nn2,cn2,ae2,ne2,ce2,rfl,hb2⟩
  go_wp2_with fail
  refine hKo hK ((hb2.block _ hS0.lt).trans hS0) (fun hS=>?_)
  clear hK K
  have hS2:Blk w2 w.heap.size #[.int .i64 lang,.slice la xs.length lc,.slice na ns.length nc,.slice va vs.length vc,.slice an gn.length cn,.slice ae ge.length ce,.slice ka kn kc] 31:=(hb2.block _ hS0.lt).trans hS0
  have hB2:=hB.trans (hb2.mono hB.size)
  refine tkH 14 ?_ rfl (fun w' hS=>?_) hS ?_
  rotate_left
  ·
   skip
   go_simp
   try with_reducible rfl
  refine rdH 15 rfl (fun K hK=>?_)
  clear hS
  go_simp
  go_wp2_with fail
  have hal2:Below w2.heap.size w2 (w2.alloc (.cells #[.int .i64 (0),.slice na ns.length nc,.slice va ns.length vc,.slice an2 nn2 cn2,.slice ae2 ne2 ce2,.slice ka kn kc] 56)):=(Below.refl _ _).alloc (Nat.le_refl _) _
  have hq2:=Blk.new w2 #[.int .i64 (0),.slice na ns.length nc,.slice va ns.length vc,.slice an2 nn2 cn2,.slice ae2 ne2 ce2,.slice ka kn kc] 56
  refine hKo hK ((hal2.block _ hS2.lt).trans hS2) (fun hS=>?_)
  clear hK K
  refine tkH 16 ?_ rfl (fun w' hS=>?_) hS ?_
  rotate_left
  ·
   skip
   go_simp
   try with_reducible rfl
  refine wpAnyH_done (by kernel_rfl) ?_ _
  clear hS
  have hB3:=hB2.trans (hal2.mono hB2.size)
  have hf:WdP ns vs w (.returned (.pointer (some ⟨w2.heap.size,0,none⟩))) (w2.alloc (.cells #[.int .i64 (0),.slice na ns.length nc,.slice va ns.length vc,.slice an2 nn2 cn2,.slice ae2 ne2 ce2,.slice ka kn kc] 56)):=
   ⟨w2.heap.size,rfl,hB3,⟨⟨_,na,nc,va,vc,_,_,_,by rw[htl];exact hq2,TextsA.below t2.out hB3,ht.out.stay hB3⟩,by omega,hnl⟩⟩
  replace hf:=Hd hf
  go_wp2
  go_ret
  exact hf.out
end Go.Proofs.YtcaeipdgbaligaaGreatDoor.ex
set_option linter.unusedSimpArgs false
set_option linter.unusedVariables false
set_option maxHeartbeats 2000000
namespace Go.Proofs.YtcaeipdgbaligaaGreatDoor.ex
open Go.ChangeShapes Go.WideShapes Go.ChangeAt Go.RowKit kit dec val tab logic
open hyp (RowA TextsA textsV textsV_length)
set_option maxRecDepth 100000
def T3(r:Int):Prop:=r=0∨r=1∨r=2
theorem sel3(a x y z:Int)(hx:T3 x)(hy:T3 y)(hz:T3 z):T3 (sel a x y z):=by
 unfold sel
 split
 ·exact hx
 ·split
  ·exact hy
  ·exact hz
theorem t0:T3 0:=.inl rfl
theorem t1:T3 1:=.inr (.inl rfl)
theorem t2:T3 2:=.inr (.inr rfl)
theorem not3_in(a:Int):T3 (not3 a):=sel3 _ _ _ _ t1 t0 t2
theorem and3_in(a b:Int):T3 (and3 a b):=by unfold and3;repeat' (first|exact t0|exact t1|exact t2|refine sel3 _ _ _ _ ?_ ?_ ?_)
theorem or3_in(a b:Int):T3 (or3 a b):=by unfold or3;repeat' (first|exact t0|exact t1|exact t2|refine sel3 _ _ _ _ ?_ ?_ ?_)
theorem xor3_in(a b:Int):T3 (xor3 a b):=by unfold xor3;repeat' (first|exact t0|exact t1|exact t2|refine sel3 _ _ _ _ ?_ ?_ ?_)
theorem xtold_c(w:World)(eb:Nat)(iv:Value)(hb:Blk w eb #[.int .i64 0,iv] 68)(r:Int)(hr:T3 r):Calls Tryz.prog 41 #[.pointer (some ⟨eb,0,none⟩),.int .i64 r] w fun e w'=>e=.returned (.tuple #[agg6 (bkK r) (bkB r) 0 ⟨#[]⟩ ⟨#[]⟩ (.slice none 0 0),.int .i64 0])∧Below w.heap.size w w':=by
 have hq:=Blk.new w #[.int .i64 0,.bool false,.int .i64 0,.string ⟨#[]⟩,.string ⟨#[]⟩,.slice none 0 0] 38
 have hal:Below w.heap.size w (w.alloc (.cells #[.int .i64 0,.bool false,.int .i64 0,.string ⟨#[]⟩,.string ⟨#[]⟩,.slice none 0 0] 38)):=(Below.refl _ _).alloc (Nat.le_refl _) _
 have z0:=(hb.alloc (.cells #[.int .i64 0,.bool false,.int .i64 0,.string ⟨#[]⟩,.string ⟨#[]⟩,.slice none 0 0] 38)).cell 0 rfl
 have cB:=Hd (xback_any r hr (w.alloc (.cells #[.int .i64 0,.bool false,.int .i64 0,.string ⟨#[]⟩,.string ⟨#[]⟩,.slice none 0 0] 38)))
 have hrc:r=2∨(r==2)=false:=by
  rcases hr with rfl|rfl|rfl
  ·exact .inr rfl
  ·exact .inr rfl
  ·exact .inl rfl
 replace hal:=Hd hal
 replace hq:=Hd hq
 have hbk:∀a:Int,bkK r=a→bkK r=a:=fun _ h=>h
 clear hbk
 generalize hk:bkK r=kk at *
 generalize hbb:bkB r=bb at *
 replace hk:=Hd hk
 replace hbb:=Hd hbb
 clear hb hr
 rcases hrc with rfl|hrc
 all_goals
  go_enter Tryz.func41,Tryz.ntmps41
  go_wp2_with fail
  refine cB.out.mono ?_
  rintro e w2 ⟨rfl,hb2⟩
  have hq2:Blk w2 w.heap.size #[.int .i64 0,.bool false,.int .i64 0,.string ⟨#[]⟩,.string ⟨#[]⟩,.slice none 0 0] 38:=(hb2.block _ hq.out.lt).trans hq.out
  have hB:=Hd (hal.out.trans (hb2.mono hal.out.size))
  clear z0
  have u0:=hq2.cell 0 rfl
  have u1:=hq2.cell 1 rfl
  have u2:=hq2.cell 2 rfl
  have u3:=hq2.cell 3 rfl
  have u4:=hq2.cell 4 rfl
  have u5:=hq2.cell 5 rfl
  have f1:=hq2.free
  replace hq2:=Hd hq2
  clear cB hb2 hal hq
  unfold agg6
  go_wp2
  have hfin:=Blk.set6 hq2.out (.int .i64 kk) (.bool bb) (.int .i64 0) (.string ⟨#[]⟩) (.string ⟨#[]⟩) (.slice none 0 0)
  have hbf:=Below.set6 hB.out (b:=w.heap.size) (Nat.le_refl _) (.int .i64 kk) (.bool bb) (.int .i64 0) (.string ⟨#[]⟩) (.string ⟨#[]⟩) (.slice none 0 0)
  exact bodyPost_ret (v:=.tuple #[agg6 kk bb 0 ⟨#[]⟩ ⟨#[]⟩ (.slice none 0 0),.int .i64 0]) (res2 rfl _ _ w.heap.size 38 _ (0,0) _ _ rfl rfl hfin.eq Tryz.underlying38 rfl infoV6) rfl ⟨rfl,hbf⟩
def T3P(w:World)(e:Ending)(w':World):Prop:=∃r,e=.returned (.int .i64 r)∧T3 r∧Below w.heap.size w w'
theorem xjunc_any(w:World)(op:Int)(ao:Option Addr)(cap:Nat)(L:List Int)(hR:RowA w w.heap.size (.slice ao L.length cap) (L.map (.int .i64)))(hop:(op=5∧L.length=1)∨((op=6∨op=7∨op=8)∧L.length=2)):
 Calls Tryz.prog 82 #[.int .i64 op,.slice ao L.length cap] w (T3P w):=by
 have hcells:∀j (hj:j<L.length),∃b off,ao=some ⟨b,off,none⟩∧w.cell? ⟨b,off+j,none⟩=some (.int .i64 L[j]):=by
  intro j hj
  have hlen:(L.map (Value.int .i64)).length=L.length:=by simp
  rcases hR with⟨a2,c2,hv,hl⟩|⟨b,off,c2,hv,h0,hc,hB,hcell⟩
  ·rw[hl]at hlen
   simp at hlen
   omega
  ·injection hv with e1 e2 e3
   refine⟨b,off,e1,?_⟩
   rw[hcell j (by omega)]
   simp
 clear hR
 rcases hop with⟨rfl,hl⟩|⟨hop,hl⟩
 ·rcases L with _|⟨r0,_|⟨r1,L⟩⟩
  ·simp at hl
  case cons.cons=>simp at hl
  case cons.nil=>
   obtain⟨b,off,rfl,z0⟩:=hcells 0 (by simp)
   replace z0:w.cell? ⟨b,off,none⟩=some (.int .i64 r0):=z0
   clear hcells
   have cN:=Hd (not_any r0 w)
   show Calls Tryz.prog 82 #[.int .i64 5,.slice (some ⟨b,off,none⟩) 1 cap] w (T3P w)
   go_enter Tryz.func82,Tryz.ntmps82
   go_wp2_with fail
   refine cN.out.mono ?_
   rintro e w2 ⟨rfl,rfl⟩
   clear cN
   go_wp2
   go_ret
   exact⟨_,rfl,not3_in _,Below.refl _ _⟩
 ·rcases L with _|⟨r0,_|⟨r1,_|⟨r2,L⟩⟩⟩
  ·simp at hl
  case cons.nil=>simp at hl
  case cons.cons.cons=>simp at hl
  case cons.cons.nil=>
   obtain⟨b,off,rfl,z0⟩:=hcells 0 (by simp)
   obtain⟨b',off',e,z1⟩:=hcells 1 (by simp)
   cases e
   replace z0:w.cell? ⟨b,off,none⟩=some (.int .i64 r0):=z0
   replace z1:w.cell? ⟨b,off+1,none⟩=some (.int .i64 r1):=z1
   clear hcells
   rcases hop with rfl|rfl|rfl
   ·show Calls Tryz.prog 82 #[.int .i64 6,.slice (some ⟨b,off,none⟩) 2 cap] w (T3P w)
    go_enter Tryz.func82,Tryz.ntmps82
    go_upto_region 5 with fail
    have hS0:w.drew.cell? ⟨b,off,none⟩=some (.int .i64 r0)∧w.drew.cell? ⟨b,off+1,none⟩=some (.int .i64 r1):=⟨z0,z1⟩
    refine wp_region_held_drew (S:=fun V=>V.cell? ⟨b,off,none⟩=some (.int .i64 r0)∧V.cell? ⟨b,off+1,none⟩=some (.int .i64 r1)) (by kernel_rfl) hS0 (fun hS=>?_)
    have hd:Below w.heap.size w w.drew:=below_drewN (Below.refl _ _) 1
    generalize w.drew=V0 at *
    clear z0 z1
    refine tkS [0,1,2,3,4,5] ?_
    iterate 6
     refine tkC ?_ rfl (fun w' hS=>?_) hS ?_
     rotate_left
     ·
      have y0:=hS.1;have y1:=hS.2
      go_simp
      try with_reducible rfl
    refine rdH 6 rfl (fun K hK=>?_)
    clear hS
    go_simp
    refine(and_any r0 r1 V0).mono ?_
    rintro e w2 ⟨rfl,n,rfl⟩
    go_wp2_with fail
    refine hKo hK (⟨hS0.1,hS0.2⟩) (fun hS=>?_)
    clear hK K
    refine tkH 7 ?_ rfl (fun w' hS=>?_) hS ?_
    rotate_left
    ·
     skip
     go_simp
     try with_reducible rfl
    refine wpAnyH_done (by kernel_rfl) ?_ _
    clear hS
    go_wp2
    go_ret
    exact⟨_,rfl,and3_in _ _,Below_drewN n hd⟩
   ·show Calls Tryz.prog 82 #[.int .i64 7,.slice (some ⟨b,off,none⟩) 2 cap] w (T3P w)
    go_enter Tryz.func82,Tryz.ntmps82
    go_upto_region 7 with fail
    have hS0:w.drew.cell? ⟨b,off,none⟩=some (.int .i64 r0)∧w.drew.cell? ⟨b,off+1,none⟩=some (.int .i64 r1):=⟨z0,z1⟩
    refine wp_region_held_drew (S:=fun V=>V.cell? ⟨b,off,none⟩=some (.int .i64 r0)∧V.cell? ⟨b,off+1,none⟩=some (.int .i64 r1)) (by kernel_rfl) hS0 (fun hS=>?_)
    have hd:Below w.heap.size w w.drew:=below_drewN (Below.refl _ _) 1
    generalize w.drew=V0 at *
    clear z0 z1
    refine tkS [0,1,2,3,4,5] ?_
    iterate 6
     refine tkC ?_ rfl (fun w' hS=>?_) hS ?_
     rotate_left
     ·
      have y0:=hS.1;have y1:=hS.2
      go_simp
      try with_reducible rfl
    refine rdH 6 rfl (fun K hK=>?_)
    clear hS
    go_simp
    refine(or_any r0 r1 V0).mono ?_
    rintro e w2 ⟨rfl,n,rfl⟩
    go_wp2_with fail
    refine hKo hK (⟨hS0.1,hS0.2⟩) (fun hS=>?_)
    clear hK K
    refine tkH 7 ?_ rfl (fun w' hS=>?_) hS ?_
    rotate_left
    ·
     skip
     go_simp
     try with_reducible rfl
    refine wpAnyH_done (by kernel_rfl) ?_ _
    clear hS
    go_wp2
    go_ret
    exact⟨_,rfl,or3_in _ _,Below_drewN n hd⟩
   ·show Calls Tryz.prog 82 #[.int .i64 8,.slice (some ⟨b,off,none⟩) 2 cap] w (T3P w)
    go_enter Tryz.func82,Tryz.ntmps82
    go_upto_region 8 with fail
    have hS0:w.drew.cell? ⟨b,off,none⟩=some (.int .i64 r0)∧w.drew.cell? ⟨b,off+1,none⟩=some (.int .i64 r1):=⟨z0,z1⟩
    refine wp_region_held_drew (S:=fun V=>V.cell? ⟨b,off,none⟩=some (.int .i64 r0)∧V.cell? ⟨b,off+1,none⟩=some (.int .i64 r1)) (by kernel_rfl) hS0 (fun hS=>?_)
    have hd:Below w.heap.size w w.drew:=below_drewN (Below.refl _ _) 1
    generalize w.drew=V0 at *
    clear z0 z1
    refine tkS [0,1,2,3,4,5] ?_
    iterate 6
     refine tkC ?_ rfl (fun w' hS=>?_) hS ?_
     rotate_left
     ·
      have y0:=hS.1;have y1:=hS.2
      go_simp
      try with_reducible rfl
    refine rdH 6 rfl (fun K hK=>?_)
    clear hS
    go_simp
    refine(xor_any r0 r1 V0).mono ?_
    rintro e w2 ⟨rfl,n,rfl⟩
    go_wp2_with fail
    refine hKo hK (⟨hS0.1,hS0.2⟩) (fun hS=>?_)
    clear hK K
    refine tkH 7 ?_ rfl (fun w' hS=>?_) hS ?_
    rotate_left
    ·
     skip
     go_simp
     try with_reducible rfl
    refine wpAnyH_done (by kernel_rfl) ?_ _
    clear hS
    go_wp2
    go_ret
    exact⟨_,rfl,xor3_in _ _,Below_drewN n hd⟩
end Go.Proofs.YtcaeipdgbaligaaGreatDoor.ex
set_option linter.unusedVariables false
namespace Go.Proofs.YtcaeipdgbaligaaGreatDoor.dec
open Go.ChangeShapes Go.WideShapes Go.ChangeAt Go.RowKit kit
structure EnvD(w:World):Prop where
 env:Env w
 size:8≤w.heap.size
 pow:Lib.TabIs Tryz.prog w "internal/strconv.uint64pow10" .u64 Lib.pow10Tab
 syn:∃tp p,w.var? Tryz.prog "strconv.ErrSyntax" = some #[.iface tp p]
 rng:∃tp p,w.var? Tryz.prog "strconv.ErrRange" = some #[.iface tp p]
theorem EnvD.drewN{w:World}(h:EnvD w)(n:Nat):EnvD (w.drewN n):=⟨h.env.drewN n,h.size,h.pow,h.syn,h.rng⟩
theorem EnvD.below{w w':World}(h:EnvD w)(hb:Below w.heap.size w w'):EnvD w':=by
 have h8:=h.size
 have hb8:Below 8 w w':=hb.mono h8
 have key:∀name,name ∈ ["internal/strconv.uint64pow10", "strconv.ErrSyntax", "strconv.ErrRange"] → w'.var? Tryz.prog name=w.var? Tryz.prog name:=by
  intro name hn
  refine var?_below hb8 (fun g hg=>?_)
  simp only[List.mem_cons,List.mem_nil_iff,or_false]at hn
  rcases hn with rfl|rfl|rfl
  ·have : Tryz.prog.globalNamed "internal/strconv.uint64pow10" = some 1:=by kernel_rfl
   rw[this]at hg;cases hg;decide
  ·have : Tryz.prog.globalNamed "strconv.ErrSyntax" = some 6:=by kernel_rfl
   rw[this]at hg;cases hg;decide
  ·have : Tryz.prog.globalNamed "strconv.ErrRange" = some 7:=by kernel_rfl
   rw[this]at hg;cases hg;decide
 refine⟨h.env.below hb,Nat.le_trans h8 hb.size,?_,?_,?_⟩
 ·unfold Lib.TabIs;rw[key _ (by simp)];exact h.pow
 ·rw[key _ (by simp)];exact h.syn
 ·rw[key _ (by simp)];exact h.rng
end Go.Proofs.YtcaeipdgbaligaaGreatDoor.dec
namespace Go.Proofs
open Go.Shelf
def Tryz.laysPu14_ren:Go.Shelf.Ren:=⟨fun|14=>200|16=>212|17=>213|19=>217|20=>218|21=>219|22=>220|23=>221|24=>222|25=>225|27=>227|26=>226|28=>228|29=>153|30=>174|31=>175|32=>176|33=>177|35=>196|34=>195|36=>197|37=>198|38=>199|39=>210|40=>211|n=>n,fun|9=>9|3=>3|22=>177|24=>207|25=>246|4=>4|34=>262|5=>5|36=>210|37=>202|0=>0|39=>264|21=>21|44=>274|47=>231|50=>278|48=>276|2=>2|52=>217|55=>220|59=>243|60=>232|20=>20|61=>244|65=>260|66=>261|67=>188|n=>n,fun|0=>6|1=>7|2=>1|3=>2|4=>3|n=>n⟩
theorem Tryz.laysPu14:Go.Proofs.LaysPu.n14 Tryz.prog Tryz.laysPu14_ren:={
  mixed:=by kernel_rfl
  f14:=Tryz.func200.trans (congrArg some (by kernel_rfl))
  f16:=Tryz.func212.trans (congrArg some (by kernel_rfl))
  f17:=Tryz.func213.trans (congrArg some (by kernel_rfl))
  f19:=Tryz.func217.trans (congrArg some (by kernel_rfl))
  f20:=Tryz.func218.trans (congrArg some (by kernel_rfl))
  f21:=Tryz.func219.trans (congrArg some (by kernel_rfl))
  f22:=Tryz.func220.trans (congrArg some (by kernel_rfl))
  f23:=Tryz.func221.trans (congrArg some (by kernel_rfl))
  f24:=Tryz.func222.trans (congrArg some (by kernel_rfl))
  f25:=Tryz.func225.trans (congrArg some (by kernel_rfl))
  f26:=Tryz.func226.trans (congrArg some (by kernel_rfl))
  f27:=Tryz.func227.trans (congrArg some (by kernel_rfl))
  f28:=Tryz.func228.trans (congrArg some (by kernel_rfl))
  f29:=Tryz.func153.trans (congrArg some (by kernel_rfl))
  f30:=Tryz.func174.trans (congrArg some (by kernel_rfl))
  f31:=Tryz.func175.trans (congrArg some (by kernel_rfl))
  f32:=Tryz.func176.trans (congrArg some (by kernel_rfl))
  f33:=Tryz.func177.trans (congrArg some (by kernel_rfl))
  f34:=Tryz.func195.trans (congrArg some (by kernel_rfl))
  f35:=Tryz.func196.trans (congrArg some (by kernel_rfl))
  f36:=Tryz.func197.trans (congrArg some (by kernel_rfl))
  f37:=Tryz.func198.trans (congrArg some (by kernel_rfl))
  f38:=Tryz.func199.trans (congrArg some (by kernel_rfl))
  f39:=Tryz.func210.trans (congrArg some (by kernel_rfl))
  f40:=Tryz.func211.trans (congrArg some (by kernel_rfl))
  t0:=Tryz.underlying0
  a0:=Tryz.isAgg0
  z0:=Tryz.sizeOf0
  v0:=Tryz.zeroValue0
  i0:=by kernel_rfl
  t2:=Tryz.underlying2
  a2:=Tryz.isAgg2
  z2:=Tryz.sizeOf2
  v2:=Tryz.zeroValue2
  i2:=by kernel_rfl
  t3:=Tryz.underlying3
  a3:=Tryz.isAgg3
  z3:=Tryz.sizeOf3
  v3:=Tryz.zeroValue3
  i3:=by kernel_rfl
  t4:=Tryz.underlying4
  a4:=Tryz.isAgg4
  z4:=Tryz.sizeOf4
  v4:=Tryz.zeroValue4
  i4:=by kernel_rfl
  t5:=Tryz.underlying5
  a5:=Tryz.isAgg5
  z5:=Tryz.sizeOf5
  v5:=Tryz.zeroValue5
  i5:=by kernel_rfl
  t9:=Tryz.underlying9
  a9:=Tryz.isAgg9
  z9:=Tryz.sizeOf9
  v9:=Tryz.zeroValue9
  i9:=by kernel_rfl
  t20:=Tryz.underlying20
  a20:=Tryz.isAgg20
  z20:=Tryz.sizeOf20
  v20:=Tryz.zeroValue20
  i20:=by kernel_rfl
  t21:=Tryz.underlying21
  a21:=Tryz.isAgg21
  z21:=Tryz.sizeOf21
  v21:=Tryz.zeroValue21
  i21:=by kernel_rfl
  t22:=Tryz.underlying177
  a22:=Tryz.isAgg177
  z22:=Tryz.sizeOf177
  v22:=Tryz.zeroValue177
  i22:=by kernel_rfl
  t24:=Tryz.underlying207
  a24:=Tryz.isAgg207
  z24:=Tryz.sizeOf207
  v24:=Tryz.zeroValue207
  i24:=by kernel_rfl
  t25:=Tryz.underlying246
  a25:=Tryz.isAgg246
  z25:=Tryz.sizeOf246
  v25:=Tryz.zeroValue246
  i25:=by kernel_rfl
  t34:=Tryz.underlying262
  a34:=Tryz.isAgg262
  z34:=Tryz.sizeOf262
  v34:=Tryz.zeroValue262
  i34:=by kernel_rfl
  c34:=by kernel_rfl
  t36:=Tryz.underlying210
  a36:=Tryz.isAgg210
  z36:=Tryz.sizeOf210
  v36:=Tryz.zeroValue210
  i36:=by kernel_rfl
  t37:=Tryz.underlying202
  a37:=Tryz.isAgg202
  z37:=Tryz.sizeOf202
  v37:=Tryz.zeroValue202
  i37:=by kernel_rfl
  t39:=Tryz.underlying264
  a39:=Tryz.isAgg264
  z39:=Tryz.sizeOf264
  v39:=Tryz.zeroValue264
  i39:=by kernel_rfl
  t44:=Tryz.underlying274
  a44:=Tryz.isAgg274
  z44:=Tryz.sizeOf274
  v44:=Tryz.zeroValue274
  i44:=by kernel_rfl
  t47:=Tryz.underlying231
  a47:=Tryz.isAgg231
  z47:=Tryz.sizeOf231
  v47:=Tryz.zeroValue231
  i47:=by kernel_rfl
  t48:=Tryz.underlying276
  a48:=Tryz.isAgg276
  z48:=Tryz.sizeOf276
  v48:=Tryz.zeroValue276
  i48:=by kernel_rfl
  t50:=Tryz.underlying278
  a50:=Tryz.isAgg278
  z50:=Tryz.sizeOf278
  v50:=Tryz.zeroValue278
  i50:=by kernel_rfl
  t52:=Tryz.underlying217
  a52:=Tryz.isAgg217
  z52:=Tryz.sizeOf217
  v52:=Tryz.zeroValue217
  i52:=by kernel_rfl
  t55:=Tryz.underlying220
  a55:=Tryz.isAgg220
  z55:=Tryz.sizeOf220
  v55:=Tryz.zeroValue220
  i55:=by kernel_rfl
  t59:=Tryz.underlying243
  a59:=Tryz.isAgg243
  z59:=Tryz.sizeOf243
  v59:=Tryz.zeroValue243
  i59:=by kernel_rfl
  t60:=Tryz.underlying232
  a60:=Tryz.isAgg232
  z60:=Tryz.sizeOf232
  v60:=Tryz.zeroValue232
  i60:=by kernel_rfl
  t61:=Tryz.underlying244
  a61:=Tryz.isAgg244
  z61:=Tryz.sizeOf244
  t65:=Tryz.underlying260
  a65:=Tryz.isAgg260
  z65:=Tryz.sizeOf260
  v65:=Tryz.zeroValue260
  i65:=by kernel_rfl
  t66:=Tryz.underlying261
  a66:=Tryz.isAgg261
  z66:=Tryz.sizeOf261
  v66:=Tryz.zeroValue261
  i66:=by kernel_rfl
  t67:=Tryz.underlying188
  a67:=Tryz.isAgg188
  z67:=Tryz.sizeOf188
  v67:=Tryz.zeroValue188
  i67:=by kernel_rfl
  g0:=by kernel_rfl
  m0:=by kernel_rfl
  g1:=by kernel_rfl
  m1:=by kernel_rfl
  g2:=by kernel_rfl
  m2:=by kernel_rfl
  g3:=by kernel_rfl
  m3:=by kernel_rfl
  g4:=by kernel_rfl
  m4:=by kernel_rfl }
open Go.RowKit in
/-- strconv.ParseUint(s,10,64),AT EVERY STRING THAT SPELLS A uint64 ('Lib.parseUintB 64 s.data.toList=.ok u'): u,AND NO ERROR. (LAID: no walk: one application.) -/
theorem Tryz.strconv_ParseUint_10_at64_ok(s:ByteArray)(hmax:s.size≤9223372036854775806)(u:Nat)(h:Lib.parseUintB 64 s.data.toList=.ok u)(w:World):
    Calls Tryz.prog 200 #[.string s,.int .i64 10,.int .i64 64] w fun e w'=>e=.returned (.tuple #[.int .u64 u,.nilIface])∧(w'=w∨w'=Lib.bytesWorld w 5 s):=Any.strconv_ParseUint_10_at64_ok Tryz.laysPu14 s hmax u h w
end Go.Proofs
