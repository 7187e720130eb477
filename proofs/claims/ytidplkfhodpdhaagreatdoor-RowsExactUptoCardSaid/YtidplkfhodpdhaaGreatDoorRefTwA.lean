/- Texts RefTwo, RefOpsP, RefOrd, one behind the other. -/
import Derived.Test.YtidplkfhodpdhaaGreatDoorRefPlA
import Derived.Test.YtidplkfhodpdhaaGreatDoorDecCmpA
set_option linter.unusedSimpArgs false
set_option linter.unusedVariables false
set_option maxRecDepth 100000
set_option maxHeartbeats 4000000
namespace Go.Proofs.YtidplkfhodpdhaaGreatDoor.dec
open Go.ChangeShapes Go.WideShapes Go.ChangeAt Go.RowKit kit
def T2S(g h:Nat)(c d:Array Value)(V:World):Prop:=Blk V g c 167∧Blk V h d 167
def NumM(o:Option (Bool×Nat×Nat))(n:Bool)(D:List Nat)(sc L:Nat):Prop:=match o with
 |none=>True
 |some p=>p.1=n∧vL D=p.2.1∧sc=p.2.2∧dgs D∧1≤D.length∧D.length≤L∧sc≤L
def NumV(w:World)(x:Value)(o:Option (Bool×Nat×Nat))(L:Nat):Prop:=∃(n:Bool) (v:Value) (D:List Nat) (sc:Nat),x=.agg #[.bool n,v,.int .i64 sc]∧IntsAt w v D∧NumM o n D sc L
theorem NumV.below{w w':World}{x:Value}{o:Option (Bool×Nat×Nat)}{L:Nat}(h:NumV w x o L)(hb:Below w.heap.size w w'):NumV w' x o L:=by
 obtain⟨n,v,D,sc,hx,hi,hm⟩:=h
 exact⟨n,v,D,sc,hx,hi.below hb,hm⟩
theorem ParseR.num{w w':World}{o:Option (Bool×Nat×Nat)}{L:Nat}{e:Ending}(h:ParseR w o L e w'):Below w.heap.size w w'∧∃(n:Bool) (v:Value) (D:List Nat) (sc:Nat),e=.returned (.tuple #[.agg #[.bool n,v,.int .i64 sc],.bool o.isSome])∧IntsAt w' v D∧NumM o n D sc L∧(∀k,v.ownBlock=some k→w.heap.size≤k):=by
 refine⟨h.1,?_⟩
 have hr:=h.2
 cases o with
 |none=>exact⟨false,.slice none 0 0,[],0,hr,.inl ⟨rfl,rfl⟩,trivial,fun k hk=>by simp[Value.ownBlock]at hk⟩
 |some p=>
  obtain⟨n,N,sc⟩:=p
  obtain⟨v,D,he,hi,hd,hv,h1,hl,hsc,hlo⟩:=hr
  exact⟨n,v,D,sc,he,hi,⟨rfl,hv,rfl,hd,h1,hl,hsc⟩,hlo⟩
theorem chk_some{l:List UInt8}(h:chk l=true):(numP l).isSome=true:=by
 obtain⟨z,hz,rfl⟩:=(chk_iff l).1 h
 obtain⟨N,sc,hn,_⟩:=numP_canon z hz
 rw[hn];rfl
structure T2(w V:World)(g h:Nat)(c d:Array Value):Prop where
 below:Below w.heap.size w V
 b0:Blk V w.heap.size (numc false (.slice none 0 0) 0) 167
 b1:Blk V (w.heap.size+1) (numc false (.slice none 0 0) 0) 167
 bg:Blk V g c 167
 bh:Blk V h d 167
theorem T2.on{w V V':World}{g h:Nat}{c d:Array Value}(t:T2 w V g h c d)(hb:Below V.heap.size V V'):T2 w V' g h c d:=
 ⟨t.below.trans (hb.mono t.below.size),t.b0.keep (Keep.ofBelow hb) (by simp),t.b1.keep (Keep.ofBelow hb) (by simp),t.bg.keep (Keep.ofBelow hb) (by simp),t.bh.keep (Keep.ofBelow hb) (by simp)⟩
theorem T2.drewN{w V:World}{g h:Nat}{c d:Array Value}(t:T2 w V g h c d)(n:Nat):T2 w (V.drewN n) g h c d:=t.on (below_drewN (Below.refl _ _) n)
theorem T2.held{w V:World}{g h:Nat}{c d:Array Value}(t:T2 w V g h c d):T2S g h c d V:=⟨t.bg,t.bh⟩
def st3(w:World)(b:Nat)(n:Bool)(v:Value)(sc:Nat):World:=((w.setCell ⟨b,0,none⟩ (.bool n)).setCell ⟨b,1,none⟩ v).setCell ⟨b,2,none⟩ (.int .i64 (sc:Int))
theorem st3_below{w V:World}(h:Below w.heap.size w V){b:Nat}(hb:w.heap.size≤b)(n:Bool)(v:Value)(sc:Nat):Below w.heap.size w (st3 V b n v sc):=
 ((h.setCell (p:=⟨b,0,none⟩) hb _).setCell (p:=⟨b,1,none⟩) hb _).setCell (p:=⟨b,2,none⟩) hb _
theorem st3_blk{V:World}{b:Nat}(n:Bool)(v:Value)(sc:Nat)(h:Blk V b (numc false (.slice none 0 0) 0) 167):Blk (st3 V b n v sc) b (numc n v sc) 167:=((h.set 0 _).set 1 _).set 2 _
theorem st3_other{V:World}{b b':Nat}{cs:Array Value}{t:TypeId}(n:Bool)(v:Value)(sc:Nat)(h:Blk V b' cs t)(hne:b'≠b):Blk (st3 V b n v sc) b' cs t:=((h.set_other _ hne _).set_other _ hne _).set_other _ hne _
theorem st3_ints{V:World}{b:Nat}{u:Value}{D:List Nat}(n:Bool)(v:Value)(sc:Nat)(h:IntsAt V u D)(hne:∀k,u.ownBlock=some k→k≠b):IntsAt (st3 V b n v sc) u D:=by
 rcases h with h|⟨g,off,cap,rfl,hlt,hc⟩
 ·exact .inl h
 ·have hg:g≠b:=hne g rfl
  have hs:(st3 V b n v sc).heap[g]? = V.heap[g]?:=by
   unfold st3
   rw[heap_setCell_other _ ⟨b,2,none⟩ g _ hg,heap_setCell_other _ ⟨b,1,none⟩ g _ hg,heap_setCell_other _ ⟨b,0,none⟩ g _ hg]
  refine .inr ⟨g,off,cap,rfl,?_,fun j hj=>?_⟩
  ·have h1:V.heap[g]?.isSome:=by rw[Array.getElem?_eq_getElem hlt];rfl
   rw[←hs]at h1
   rcases Nat.lt_or_ge g (st3 V b n v sc).heap.size with h2|h2
   ·exact h2
   ·rw[Array.getElem?_eq_none h2]at h1;cases h1
  ·exact(World.cell?_of_block (a:=⟨g,off+j,none⟩) hs).trans (hc j hj)
theorem two_any(a b:ByteArray)(w:World)(ha:a.size≤50000)(hb:b.size≤50000):
 Calls Tryz.prog 146 #[.string a,.string b] w fun e w'=>∃x y,e=.returned (.tuple #[x,y,.bool (chk a.data.toList&&chk b.data.toList)])∧Below w.heap.size w w'∧NumV w' x (numP a.data.toList) a.size∧NumV w' y (numP b.data.toList) b.size:=by
 have hpa:=Hd (fun w=>parsed_any a w ha)
 have hpb:=Hd (fun w=>parsed_any b w hb)
 have hca:=Hd (fun w=>rcheck_any a w ha)
 have hcb:=Hd (fun w=>rcheck_any b w hb)
 have hsa:=@chk_some a.data.toList
 have hsb:=@chk_some b.data.toList
 obtain⟨ca,hcae⟩:∃c,chk a.data.toList=c:=⟨_,rfl⟩
 obtain⟨cb,hcbe⟩:∃c,chk b.data.toList=c:=⟨_,rfl⟩
 obtain⟨oa,hoa⟩:∃o,numP a.data.toList=o:=⟨_,rfl⟩
 obtain⟨ob,hob⟩:∃o,numP b.data.toList=o:=⟨_,rfl⟩
 rw[hcae,hoa]at hsa
 rw[hcbe,hob]at hsb
 rw[hcae]at hca
 rw[hcbe]at hcb
 rw[hoa]at hpa
 rw[hob]at hpb
 rw[hoa,hob,hcae,hcbe]
 clear hcae hcbe hoa hob
 replace hsa:=Hd hsa
 replace hsb:=Hd hsb
 go_enter Tryz.func146,Tryz.ntmps146
 go_upto_region 1 with(fail)
 have g0:=GW.made w
 have k0:Below w.heap.size w ((w.alloc (.cells #[.bool false,.slice none 0 0,.int .i64 0] 167)).alloc (.cells #[.bool false,.slice none 0 0,.int .i64 0] 167)):=g0.below
 have b0:Blk ((w.alloc (.cells #[.bool false,.slice none 0 0,.int .i64 0] 167)).alloc (.cells #[.bool false,.slice none 0 0,.int .i64 0] 167)) w.heap.size (numc false (.slice none 0 0) 0) 167:=g0.b0
 have b1:Blk ((w.alloc (.cells #[.bool false,.slice none 0 0,.int .i64 0] 167)).alloc (.cells #[.bool false,.slice none 0 0,.int .i64 0] 167)) (w.heap.size+1) (numc false (.slice none 0 0) 0) 167:=g0.b1
 clear g0
 generalize ((w.alloc (.cells #[.bool false,.slice none 0 0,.int .i64 0] 167)).alloc (.cells #[.bool false,.slice none 0 0,.int .i64 0] 167))=W at *
 have hW2:=b1.lt
 replace k0:=Hd k0
 replace b0:=Hd b0
 replace b1:=Hd b1
 go_wp2_with fail
 refine(hpa.out _).mono ?_
 rintro e w1 hr
 obtain⟨hb1,n1,v1,D1,sc1,rfl,hi1,hm1,hl1⟩:=hr.num
 obtain⟨vo1,vc1,rfl⟩:=hi1.form
 clear hr
 have hlx:∀k,(Value.slice vo1 D1.length vc1).ownBlock=some k→w.heap.size+1<k:=fun k hk=>by have:=hl1 k hk;omega
 have hb1s:=hb1.size
 replace hb1:=Hd hb1
 replace hi1:=Hd hi1
 replace hm1:=Hd hm1
 go_wp2_with fail
 obtain⟨w2,hw2⟩:∃w2,w2=w1.alloc (.cells #[.bool n1,.slice vo1 D1.length vc1,.int .i64 sc1] 167):=⟨_,rfl⟩
 have hb2:Below w1.heap.size w1 w2:=by rw[hw2];exact(Below.refl _ _).alloc (Nat.le_refl _) _
 have bg2:Blk w2 w1.heap.size (numc n1 (.slice vo1 D1.length vc1) sc1) 167:=by rw[hw2];exact Blk.new _ _ _
 rw[←hw2]
 clear hw2
 replace hb2:=Hd hb2
 replace bg2:=Hd bg2
 refine(hpb.out w2).mono ?_
 rintro e w3 hr
 obtain⟨hb3,n2,v2,D2,sc2,rfl,hi2,hm2,hl2⟩:=hr.num
 obtain⟨vo2,vc2,rfl⟩:=hi2.form
 clear hr
 have hly:∀k,(Value.slice vo2 D2.length vc2).ownBlock=some k→w.heap.size+1<k:=fun k hk=>by have:=hl2 k hk;have:=hb2.out.size;omega
 replace hb3:=Hd hb3
 replace hi2:=Hd hi2
 replace hm2:=Hd hm2
 replace hlx:=Hd hlx
 replace hly:=Hd hly
 clear hl1 hl2
 go_upto_region 3 with(fail)
 obtain⟨w4,hw4⟩:∃w4,w4=w3.alloc (.cells #[.bool n2,.slice vo2 D2.length vc2,.int .i64 sc2] 167):=⟨_,rfl⟩
 have hb4:Below w3.heap.size w3 w4:=by rw[hw4];exact(Below.refl _ _).alloc (Nat.le_refl _) _
 have bh4:Blk w4 w3.heap.size (numc n2 (.slice vo2 D2.length vc2) sc2) 167:=by rw[hw4];exact Blk.new _ _ _
 rw[←hw4]
 clear hw4
 have ks:Below W.heap.size W w4:=((hb1.out.trans (hb2.out.mono hb1.out.size)).trans (hb3.out.mono (Nat.le_trans hb1.out.size hb2.out.size))).trans (hb4.mono (Nat.le_trans hb1.out.size (Nat.le_trans hb2.out.size hb3.out.size)))
 have tw:T2 w w4 w1.heap.size w3.heap.size (numc n1 (.slice vo1 D1.length vc1) sc1) (numc n2 (.slice vo2 D2.length vc2) sc2):=
  ⟨k0.out.trans (ks.mono k0.out.size),b0.out.keep (Keep.ofBelow ks) (by simp),b1.out.keep (Keep.ofBelow ks) (by simp),(bg2.out.keep (Keep.ofBelow hb3.out) (by simp)).keep (Keep.ofBelow hb4) (by simp),bh4⟩
 have hi1':=(hi1.out.below (hb2.out.trans (hb3.out.mono hb2.out.size))).below hb4
 have hi2':=hi2.out.below hb4
 have hg1:w.heap.size+1<w1.heap.size:=by have:=hb1.out.size;omega
 have hg3:w.heap.size+1<w3.heap.size:=by have:=hb2.out.size;have:=hb3.out.size;omega
 generalize w1.heap.size=g at *
 generalize w3.heap.size=h at *
 clear k0 b0 b1 hb1 hi1 hb2 bg2 hb3 hi2 hb4 bh4 ks
 replace tw:=Hd tw
 replace hi1':=Hd hi1'
 replace hi2':=Hd hi2'
 obtain⟨qa,hqa⟩:∃q,oa.isSome=q:=⟨_,rfl⟩
 obtain⟨qb,hqb⟩:∃q,ob.isSome=q:=⟨_,rfl⟩
 have hsa2:=hsa.out
 have hsb2:=hsb.out
 rw[hqa]at hsa2
 rw[hqb]at hsb2
 rw[hqa,hqb]
 clear hsa hsb
 have hS0:T2S g h (numc n1 (.slice vo1 D1.length vc1) sc1) (numc n2 (.slice vo2 D2.length vc2) sc2) w4.drew:=(tw.out.drewN 1).held
 refine wp_region_held_drew (S:=T2S g h (numc n1 (.slice vo1 D1.length vc1) sc1) (numc n2 (.slice vo2 D2.length vc2) sc2)) (by kernel_rfl) hS0 (fun hS=>?_)
 clear hS0
 have tw9:Hid (T2 w w4.drew g h (numc n1 (.slice vo1 D1.length vc1) sc1) (numc n2 (.slice vo2 D2.length vc2) sc2)):=tw.out.drewN 1
 have hi19:Hid (IntsAt w4.drew (.slice vo1 D1.length vc1) D1):=hi1'.out.drewN 1
 have hi29:Hid (IntsAt w4.drew (.slice vo2 D2.length vc2) D2):=hi2'.out.drewN 1
 clear tw hi1' hi2'
 generalize w4.drew=V0 at *
 refine wpAnyH_take (i:=0) (v:=.agg #[.bool n1,.slice vo1 D1.length vc1,.int .i64 sc1]) rfl (by kernel_rfl) (by kernel_rfl) (by kernel_rfl) (fun _ _ _ h=>h) (.inl ⟨by kernel_rfl,fun w' hS=>by have x0:=hS.1.cell 0 rfl;have x1:=hS.1.cell 1 rfl;have x2:=hS.1.cell 2 rfl;go_simp;try exact⟨rfl,rfl,rfl⟩⟩) hS ?_;simp only[List.getElem_toArray,List.getElem_cons_succ,List.getElem_cons_zero,Act.put,List.setIfInBounds_toArray,List.set_cons_zero,List.set_cons_succ]
 refine wpAnyH_take (i:=1) (v:=.agg #[.bool n2,.slice vo2 D2.length vc2,.int .i64 sc2]) rfl (by kernel_rfl) (by kernel_rfl) (by kernel_rfl) (fun _ _ _ h=>h) (.inl ⟨by kernel_rfl,fun w' hS=>by have y0:=hS.2.cell 0 rfl;have y1:=hS.2.cell 1 rfl;have y2:=hS.2.cell 2 rfl;go_simp;try exact⟨rfl,rfl,rfl⟩⟩) hS ?_;simp only[List.getElem_toArray,List.getElem_cons_succ,List.getElem_cons_zero,Act.put,List.setIfInBounds_toArray,List.set_cons_zero,List.set_cons_succ]
 refine wpAnyH_take (i:=2) (v:=.bool qa) rfl (by kernel_rfl) (by kernel_rfl) (by kernel_rfl) (fun _ _ _ h=>h) (.inl ⟨by kernel_rfl,fun _ _=>by kernel_rfl⟩) hS ?_;simp only[List.getElem_toArray,List.getElem_cons_succ,List.getElem_cons_zero,Act.put,List.setIfInBounds_toArray,List.set_cons_zero,List.set_cons_succ]
 refine wpAnyH_take (i:=3) (v:=.bool qa) rfl (by kernel_rfl) (by kernel_rfl) (by kernel_rfl) (fun _ _ _ h=>h) (.inl ⟨by kernel_rfl,fun _ _=>by kernel_rfl⟩) hS ?_;simp only[List.getElem_toArray,List.getElem_cons_succ,List.getElem_cons_zero,Act.put,List.setIfInBounds_toArray,List.set_cons_zero,List.set_cons_succ]
 cases qa
 ·obtain rfl:ca=false:=Bool.eq_false_iff.2 (fun e=>by have:=hsa2 e;cases this)
  clear hsa2 hsb2
  refine wpAnyH_take (i:=4) (v:=undef) rfl (by kernel_rfl) (by kernel_rfl) (by kernel_rfl) (fun _ _ _ h=>h) (.inr ⟨by kernel_rfl,rfl⟩) hS ?_;simp only[List.getElem_toArray,List.getElem_cons_succ,List.getElem_cons_zero,Act.put,List.setIfInBounds_toArray,List.set_cons_zero,List.set_cons_succ]
  refine wpAnyH_take (i:=5) (v:=.bool false) rfl (by kernel_rfl) (by kernel_rfl) (by kernel_rfl) (fun _ _ _ h=>h) (.inl ⟨by kernel_rfl,fun _ _=>by kernel_rfl⟩) hS ?_;simp only[List.getElem_toArray,List.getElem_cons_succ,List.getElem_cons_zero,Act.put,List.setIfInBounds_toArray,List.set_cons_zero,List.set_cons_succ]
  refine wpAnyH_take (i:=6) (v:=.bool false) rfl (by kernel_rfl) (by kernel_rfl) (by kernel_rfl) (fun _ _ _ h=>h) (.inl ⟨by kernel_rfl,fun _ _=>by kernel_rfl⟩) hS ?_;simp only[List.getElem_toArray,List.getElem_cons_succ,List.getElem_cons_zero,Act.put,List.setIfInBounds_toArray,List.set_cons_zero,List.set_cons_succ]
  refine wpAnyH_take (i:=7) (v:=undef) rfl (by kernel_rfl) (by kernel_rfl) (by kernel_rfl) (fun _ _ _ h=>h) (.inr ⟨by kernel_rfl,rfl⟩) hS ?_;simp only[List.getElem_toArray,List.getElem_cons_succ,List.getElem_cons_zero,Act.put,List.setIfInBounds_toArray,List.set_cons_zero,List.set_cons_succ]
  refine wpAnyH_take (i:=8) (v:=undef) rfl (by kernel_rfl) (by kernel_rfl) (by kernel_rfl) (fun _ _ _ h=>h) (.inr ⟨by kernel_rfl,rfl⟩) hS ?_;simp only[List.getElem_toArray,List.getElem_cons_succ,List.getElem_cons_zero,Act.put,List.setIfInBounds_toArray,List.set_cons_zero,List.set_cons_succ]
  refine wpAnyH_take (i:=9) (v:=.bool false) rfl (by kernel_rfl) (by kernel_rfl) (by kernel_rfl) (fun _ _ _ h=>h) (.inl ⟨by kernel_rfl,fun _ _=>by kernel_rfl⟩) hS ?_;simp only[List.getElem_toArray,List.getElem_cons_succ,List.getElem_cons_zero,Act.put,List.setIfInBounds_toArray,List.set_cons_zero,List.set_cons_succ]
  refine wpAnyH_take (i:=10) (v:=.bool false) rfl (by kernel_rfl) (by kernel_rfl) (by kernel_rfl) (fun _ _ _ h=>h) (.inl ⟨by kernel_rfl,fun _ _=>by kernel_rfl⟩) hS ?_;simp only[List.getElem_toArray,List.getElem_cons_succ,List.getElem_cons_zero,Act.put,List.setIfInBounds_toArray,List.set_cons_zero,List.set_cons_succ]
  refine wpAnyH_take (i:=11) (v:=undef) rfl (by kernel_rfl) (by kernel_rfl) (by kernel_rfl) (fun _ _ _ h=>h) (.inr ⟨by kernel_rfl,rfl⟩) hS ?_;simp only[List.getElem_toArray,List.getElem_cons_succ,List.getElem_cons_zero,Act.put,List.setIfInBounds_toArray,List.set_cons_zero,List.set_cons_succ]
  refine wpAnyH_take (i:=12) (v:=undef) rfl (by kernel_rfl) (by kernel_rfl) (by kernel_rfl) (fun _ _ _ h=>h) (.inr ⟨by kernel_rfl,rfl⟩) hS ?_;simp only[List.getElem_toArray,List.getElem_cons_succ,List.getElem_cons_zero,Act.put,List.setIfInBounds_toArray,List.set_cons_zero,List.set_cons_succ]
  refine wpAnyH_take (i:=13) (v:=.bool false) rfl (by kernel_rfl) (by kernel_rfl) (by kernel_rfl) (fun _ _ _ h=>h) (.inl ⟨by kernel_rfl,fun _ _=>by kernel_rfl⟩) hS ?_;simp only[List.getElem_toArray,List.getElem_cons_succ,List.getElem_cons_zero,Act.put,List.setIfInBounds_toArray,List.set_cons_zero,List.set_cons_succ]
  have hT:T2 w (V0) g h (numc n1 (.slice vo1 D1.length vc1) sc1) (numc n2 (.slice vo2 D2.length vc2) sc2):=tw9.out
  have hj1:IntsAt (V0) (.slice vo1 D1.length vc1) D1:=hi19.out
  have hj2:IntsAt (V0) (.slice vo2 D2.length vc2) D2:=hi29.out
  have x0:(V0).cell? ⟨g,0,none⟩=some (.bool n1):=hT.bg.cell 0 rfl
  have x1:(V0).cell? ⟨g,1,none⟩=some (.slice vo1 D1.length vc1):=hT.bg.cell 1 rfl
  have x2:(V0).cell? ⟨g,2,none⟩=some (.int .i64 sc1):=hT.bg.cell 2 rfl
  have y0:(V0).cell? ⟨h,0,none⟩=some (.bool n2):=hT.bh.cell 0 rfl
  have y1:(V0).cell? ⟨h,1,none⟩=some (.slice vo2 D2.length vc2):=hT.bh.cell 1 rfl
  have y2:(V0).cell? ⟨h,2,none⟩=some (.int .i64 sc2):=hT.bh.cell 2 rfl
  have p0:(V0).cell? ⟨w.heap.size,0,none⟩=some (.bool false):=hT.b0.cell 0 rfl
  have p1:(V0).cell? ⟨w.heap.size,1,none⟩=some (.slice none 0 0):=hT.b0.cell 1 rfl
  have p2:(V0).cell? ⟨w.heap.size,2,none⟩=some (.int .i64 0):=hT.b0.cell 2 rfl
  have q0:(V0).frozen? ⟨w.heap.size,0,none⟩=false:=hT.b0.free 0
  have q1:(V0).frozen? ⟨w.heap.size,1,none⟩=false:=hT.b0.free 1
  have q2:(V0).frozen? ⟨w.heap.size,2,none⟩=false:=hT.b0.free 2
  have r0:(V0).cell? ⟨w.heap.size+1,0,none⟩=some (.bool false):=hT.b1.cell 0 rfl
  have r1:(V0).cell? ⟨w.heap.size+1,1,none⟩=some (.slice none 0 0):=hT.b1.cell 1 rfl
  have r2:(V0).cell? ⟨w.heap.size+1,2,none⟩=some (.int .i64 0):=hT.b1.cell 2 rfl
  have s0:(V0).frozen? ⟨w.heap.size+1,0,none⟩=false:=hT.b1.free 0
  have s1:(V0).frozen? ⟨w.heap.size+1,1,none⟩=false:=hT.b1.free 1
  have s2:(V0).frozen? ⟨w.heap.size+1,2,none⟩=false:=hT.b1.free 2
  have c0:=st3_blk n1 (.slice vo1 D1.length vc1) sc1 hT.b0
  have cg:=st3_other n1 (.slice vo1 D1.length vc1) sc1 hT.bg (show g≠w.heap.size by omega)
  have ch:=st3_other n1 (.slice vo1 D1.length vc1) sc1 hT.bh (show h≠w.heap.size by omega)
  have c1:=st3_other n1 (.slice vo1 D1.length vc1) sc1 hT.b1 (show w.heap.size+1≠w.heap.size by omega)
  have d1:=st3_blk n2 (.slice vo2 D2.length vc2) sc2 c1
  have d0:=st3_other n2 (.slice vo2 D2.length vc2) sc2 c0 (show w.heap.size≠w.heap.size+1 by omega)
  have dg:=st3_other n2 (.slice vo2 D2.length vc2) sc2 cg (show g≠w.heap.size+1 by omega)
  have dh:=st3_other n2 (.slice vo2 D2.length vc2) sc2 ch (show h≠w.heap.size+1 by omega)
  have hbe:=st3_below (st3_below hT.below (Nat.le_refl _) n1 (.slice vo1 D1.length vc1) sc1) (Nat.le_succ _) n2 (.slice vo2 D2.length vc2) sc2
  have hn1:=st3_ints n2 (.slice vo2 D2.length vc2) sc2 (b:=w.heap.size+1) (st3_ints n1 (.slice vo1 D1.length vc1) sc1 (b:=w.heap.size) hj1 (fun k hk=>by have:=hlx.out k hk;omega)) (fun k hk=>by have:=hlx.out k hk;omega)
  have hn2:=st3_ints n2 (.slice vo2 D2.length vc2) sc2 (b:=w.heap.size+1) (st3_ints n1 (.slice vo1 D1.length vc1) sc1 (b:=w.heap.size) hj2 (fun k hk=>by have:=hly.out k hk;omega)) (fun k hk=>by have:=hly.out k hk;omega)
  have hSa:T2S g h (numc n1 (.slice vo1 D1.length vc1) sc1) (numc n2 (.slice vo2 D2.length vc2) sc2) (st3 (V0) w.heap.size n1 (.slice vo1 D1.length vc1) sc1):=⟨cg,ch⟩
  have hSb:T2S g h (numc n1 (.slice vo1 D1.length vc1) sc1) (numc n2 (.slice vo2 D2.length vc2) sc2) (st3 (st3 (V0) w.heap.size n1 (.slice vo1 D1.length vc1) sc1) (w.heap.size+1) n2 (.slice vo2 D2.length vc2) sc2):=⟨dg,dh⟩
  clear c0 cg ch dg dh hj1 hj2 hT
  replace c1:=Hd c1
  replace d0:=Hd d0
  replace d1:=Hd d1
  replace hbe:=Hd hbe
  replace hn1:=Hd hn1
  replace hn2:=Hd hn2
  replace hSa:=Hd hSa
  replace hSb:=Hd hSb
  refine wpAnyH_ready (rs:=[14]) (by kernel_rfl) (by simp) ?_
  refine AllReadyH.cons rfl (fun K hK=>?_) AllReadyH.nil
  clear hS
  go_simp
  refine hK.out _ (st3 (V0) w.heap.size n1 (.slice vo1 D1.length vc1) sc1) hSa.out (fun hS=>?_)
  clear hK K
  clear x0 x1 x2 y0 y1 y2 p0 p1 p2 q0 q1 q2 r0 r1 r2 s0 s1 s2 hSa
  generalize st3 (V0) w.heap.size n1 (.slice vo1 D1.length vc1) sc1=V1 at *
  have r0:V1.cell? ⟨w.heap.size+1,0,none⟩=some (.bool false):=c1.out.cell 0 rfl
  have r1:V1.cell? ⟨w.heap.size+1,1,none⟩=some (.slice none 0 0):=c1.out.cell 1 rfl
  have r2:V1.cell? ⟨w.heap.size+1,2,none⟩=some (.int .i64 0):=c1.out.cell 2 rfl
  have s0:V1.frozen? ⟨w.heap.size+1,0,none⟩=false:=c1.out.free 0
  have s1:V1.frozen? ⟨w.heap.size+1,1,none⟩=false:=c1.out.free 1
  have s2:V1.frozen? ⟨w.heap.size+1,2,none⟩=false:=c1.out.free 2
  try simp only[List.getElem_toArray,List.getElem_cons_succ,List.getElem_cons_zero,Act.put,List.setIfInBounds_toArray,List.set_cons_zero,List.set_cons_succ]
  refine wpAnyH_ready (rs:=[15]) (by kernel_rfl) (by simp) ?_
  refine AllReadyH.cons rfl (fun K hK=>?_) AllReadyH.nil
  clear hS
  go_simp
  refine hK.out _ (st3 V1 (w.heap.size+1) n2 (.slice vo2 D2.length vc2) sc2) hSb.out (fun hS=>?_)
  clear hK K
  try simp only[List.getElem_toArray,List.getElem_cons_succ,List.getElem_cons_zero,Act.put,List.setIfInBounds_toArray,List.set_cons_zero,List.set_cons_succ]
  refine wpAnyH_take (i:=16) (v:=.bool false) rfl (by kernel_rfl) (by kernel_rfl) (by kernel_rfl) (fun _ _ _ h=>h) (.inl ⟨by kernel_rfl,fun _ _=>by kernel_rfl⟩) hS ?_;simp only[List.getElem_toArray,List.getElem_cons_succ,List.getElem_cons_zero,Act.put,List.setIfInBounds_toArray,List.set_cons_zero,List.set_cons_succ]
  refine wpAnyH_done (by kernel_rfl) ?_ _
  go_wp2_with fail
  exact bodyPost_ret (v:=.tuple #[.agg (numc n1 (.slice vo1 D1.length vc1) sc1),.agg (numc n2 (.slice vo2 D2.length vc2) sc2),.bool false]) (res3 rfl _ _ w.heap.size (w.heap.size+1) 167 167 _ _ (0,0) (0,0) _ _ _ rfl rfl d0.out.eq rfl d1.out.eq Tryz.underlying167 rfl infoNum Tryz.underlying167 rfl infoNum) rfl
   ⟨_,_,rfl,hbe.out,⟨n1,_,D1,sc1,rfl,hn1.out,hm1.out⟩,⟨n2,_,D2,sc2,rfl,hn2.out,hm2.out⟩⟩
 ·clear hsa2
  cases qb
  ·obtain rfl:cb=false:=Bool.eq_false_iff.2 (fun e=>by have:=hsb2 e;cases this)
   clear hsb2
   have hcf:(ca&&false)=false:=Bool.and_false _
   rw[hcf]at *
   refine wpAnyH_take (i:=4) (v:=.bool false) rfl (by kernel_rfl) (by kernel_rfl) (by kernel_rfl) (fun _ _ _ h=>h) (.inl ⟨by kernel_rfl,fun _ _=>by kernel_rfl⟩) hS ?_;simp only[List.getElem_toArray,List.getElem_cons_succ,List.getElem_cons_zero,Act.put,List.setIfInBounds_toArray,List.set_cons_zero,List.set_cons_succ]
   refine wpAnyH_take (i:=5) (v:=.bool false) rfl (by kernel_rfl) (by kernel_rfl) (by kernel_rfl) (fun _ _ _ h=>h) (.inl ⟨by kernel_rfl,fun _ _=>by kernel_rfl⟩) hS ?_;simp only[List.getElem_toArray,List.getElem_cons_succ,List.getElem_cons_zero,Act.put,List.setIfInBounds_toArray,List.set_cons_zero,List.set_cons_succ]
   refine wpAnyH_take (i:=6) (v:=.bool false) rfl (by kernel_rfl) (by kernel_rfl) (by kernel_rfl) (fun _ _ _ h=>h) (.inl ⟨by kernel_rfl,fun _ _=>by kernel_rfl⟩) hS ?_;simp only[List.getElem_toArray,List.getElem_cons_succ,List.getElem_cons_zero,Act.put,List.setIfInBounds_toArray,List.set_cons_zero,List.set_cons_succ]
   refine wpAnyH_take (i:=7) (v:=undef) rfl (by kernel_rfl) (by kernel_rfl) (by kernel_rfl) (fun _ _ _ h=>h) (.inr ⟨by kernel_rfl,rfl⟩) hS ?_;simp only[List.getElem_toArray,List.getElem_cons_succ,List.getElem_cons_zero,Act.put,List.setIfInBounds_toArray,List.set_cons_zero,List.set_cons_succ]
   refine wpAnyH_take (i:=8) (v:=undef) rfl (by kernel_rfl) (by kernel_rfl) (by kernel_rfl) (fun _ _ _ h=>h) (.inr ⟨by kernel_rfl,rfl⟩) hS ?_;simp only[List.getElem_toArray,List.getElem_cons_succ,List.getElem_cons_zero,Act.put,List.setIfInBounds_toArray,List.set_cons_zero,List.set_cons_succ]
   refine wpAnyH_take (i:=9) (v:=.bool false) rfl (by kernel_rfl) (by kernel_rfl) (by kernel_rfl) (fun _ _ _ h=>h) (.inl ⟨by kernel_rfl,fun _ _=>by kernel_rfl⟩) hS ?_;simp only[List.getElem_toArray,List.getElem_cons_succ,List.getElem_cons_zero,Act.put,List.setIfInBounds_toArray,List.set_cons_zero,List.set_cons_succ]
   refine wpAnyH_take (i:=10) (v:=.bool false) rfl (by kernel_rfl) (by kernel_rfl) (by kernel_rfl) (fun _ _ _ h=>h) (.inl ⟨by kernel_rfl,fun _ _=>by kernel_rfl⟩) hS ?_;simp only[List.getElem_toArray,List.getElem_cons_succ,List.getElem_cons_zero,Act.put,List.setIfInBounds_toArray,List.set_cons_zero,List.set_cons_succ]
   refine wpAnyH_take (i:=11) (v:=undef) rfl (by kernel_rfl) (by kernel_rfl) (by kernel_rfl) (fun _ _ _ h=>h) (.inr ⟨by kernel_rfl,rfl⟩) hS ?_;simp only[List.getElem_toArray,List.getElem_cons_succ,List.getElem_cons_zero,Act.put,List.setIfInBounds_toArray,List.set_cons_zero,List.set_cons_succ]
   refine wpAnyH_take (i:=12) (v:=undef) rfl (by kernel_rfl) (by kernel_rfl) (by kernel_rfl) (fun _ _ _ h=>h) (.inr ⟨by kernel_rfl,rfl⟩) hS ?_;simp only[List.getElem_toArray,List.getElem_cons_succ,List.getElem_cons_zero,Act.put,List.setIfInBounds_toArray,List.set_cons_zero,List.set_cons_succ]
   refine wpAnyH_take (i:=13) (v:=.bool false) rfl (by kernel_rfl) (by kernel_rfl) (by kernel_rfl) (fun _ _ _ h=>h) (.inl ⟨by kernel_rfl,fun _ _=>by kernel_rfl⟩) hS ?_;simp only[List.getElem_toArray,List.getElem_cons_succ,List.getElem_cons_zero,Act.put,List.setIfInBounds_toArray,List.set_cons_zero,List.set_cons_succ]
   have hT:T2 w (V0) g h (numc n1 (.slice vo1 D1.length vc1) sc1) (numc n2 (.slice vo2 D2.length vc2) sc2):=tw9.out
   have hj1:IntsAt (V0) (.slice vo1 D1.length vc1) D1:=hi19.out
   have hj2:IntsAt (V0) (.slice vo2 D2.length vc2) D2:=hi29.out
   have x0:(V0).cell? ⟨g,0,none⟩=some (.bool n1):=hT.bg.cell 0 rfl
   have x1:(V0).cell? ⟨g,1,none⟩=some (.slice vo1 D1.length vc1):=hT.bg.cell 1 rfl
   have x2:(V0).cell? ⟨g,2,none⟩=some (.int .i64 sc1):=hT.bg.cell 2 rfl
   have y0:(V0).cell? ⟨h,0,none⟩=some (.bool n2):=hT.bh.cell 0 rfl
   have y1:(V0).cell? ⟨h,1,none⟩=some (.slice vo2 D2.length vc2):=hT.bh.cell 1 rfl
   have y2:(V0).cell? ⟨h,2,none⟩=some (.int .i64 sc2):=hT.bh.cell 2 rfl
   have p0:(V0).cell? ⟨w.heap.size,0,none⟩=some (.bool false):=hT.b0.cell 0 rfl
   have p1:(V0).cell? ⟨w.heap.size,1,none⟩=some (.slice none 0 0):=hT.b0.cell 1 rfl
   have p2:(V0).cell? ⟨w.heap.size,2,none⟩=some (.int .i64 0):=hT.b0.cell 2 rfl
   have q0:(V0).frozen? ⟨w.heap.size,0,none⟩=false:=hT.b0.free 0
   have q1:(V0).frozen? ⟨w.heap.size,1,none⟩=false:=hT.b0.free 1
   have q2:(V0).frozen? ⟨w.heap.size,2,none⟩=false:=hT.b0.free 2
   have r0:(V0).cell? ⟨w.heap.size+1,0,none⟩=some (.bool false):=hT.b1.cell 0 rfl
   have r1:(V0).cell? ⟨w.heap.size+1,1,none⟩=some (.slice none 0 0):=hT.b1.cell 1 rfl
   have r2:(V0).cell? ⟨w.heap.size+1,2,none⟩=some (.int .i64 0):=hT.b1.cell 2 rfl
   have s0:(V0).frozen? ⟨w.heap.size+1,0,none⟩=false:=hT.b1.free 0
   have s1:(V0).frozen? ⟨w.heap.size+1,1,none⟩=false:=hT.b1.free 1
   have s2:(V0).frozen? ⟨w.heap.size+1,2,none⟩=false:=hT.b1.free 2
   have c0:=st3_blk n1 (.slice vo1 D1.length vc1) sc1 hT.b0
   have cg:=st3_other n1 (.slice vo1 D1.length vc1) sc1 hT.bg (show g≠w.heap.size by omega)
   have ch:=st3_other n1 (.slice vo1 D1.length vc1) sc1 hT.bh (show h≠w.heap.size by omega)
   have c1:=st3_other n1 (.slice vo1 D1.length vc1) sc1 hT.b1 (show w.heap.size+1≠w.heap.size by omega)
   have d1:=st3_blk n2 (.slice vo2 D2.length vc2) sc2 c1
   have d0:=st3_other n2 (.slice vo2 D2.length vc2) sc2 c0 (show w.heap.size≠w.heap.size+1 by omega)
   have dg:=st3_other n2 (.slice vo2 D2.length vc2) sc2 cg (show g≠w.heap.size+1 by omega)
   have dh:=st3_other n2 (.slice vo2 D2.length vc2) sc2 ch (show h≠w.heap.size+1 by omega)
   have hbe:=st3_below (st3_below hT.below (Nat.le_refl _) n1 (.slice vo1 D1.length vc1) sc1) (Nat.le_succ _) n2 (.slice vo2 D2.length vc2) sc2
   have hn1:=st3_ints n2 (.slice vo2 D2.length vc2) sc2 (b:=w.heap.size+1) (st3_ints n1 (.slice vo1 D1.length vc1) sc1 (b:=w.heap.size) hj1 (fun k hk=>by have:=hlx.out k hk;omega)) (fun k hk=>by have:=hlx.out k hk;omega)
   have hn2:=st3_ints n2 (.slice vo2 D2.length vc2) sc2 (b:=w.heap.size+1) (st3_ints n1 (.slice vo1 D1.length vc1) sc1 (b:=w.heap.size) hj2 (fun k hk=>by have:=hly.out k hk;omega)) (fun k hk=>by have:=hly.out k hk;omega)
   have hSa:T2S g h (numc n1 (.slice vo1 D1.length vc1) sc1) (numc n2 (.slice vo2 D2.length vc2) sc2) (st3 (V0) w.heap.size n1 (.slice vo1 D1.length vc1) sc1):=⟨cg,ch⟩
   have hSb:T2S g h (numc n1 (.slice vo1 D1.length vc1) sc1) (numc n2 (.slice vo2 D2.length vc2) sc2) (st3 (st3 (V0) w.heap.size n1 (.slice vo1 D1.length vc1) sc1) (w.heap.size+1) n2 (.slice vo2 D2.length vc2) sc2):=⟨dg,dh⟩
   clear c0 cg ch dg dh hj1 hj2 hT
   replace c1:=Hd c1
   replace d0:=Hd d0
   replace d1:=Hd d1
   replace hbe:=Hd hbe
   replace hn1:=Hd hn1
   replace hn2:=Hd hn2
   replace hSa:=Hd hSa
   replace hSb:=Hd hSb
   refine wpAnyH_ready (rs:=[14]) (by kernel_rfl) (by simp) ?_
   refine AllReadyH.cons rfl (fun K hK=>?_) AllReadyH.nil
   clear hS
   go_simp
   refine hK.out _ (st3 (V0) w.heap.size n1 (.slice vo1 D1.length vc1) sc1) hSa.out (fun hS=>?_)
   clear hK K
   clear x0 x1 x2 y0 y1 y2 p0 p1 p2 q0 q1 q2 r0 r1 r2 s0 s1 s2 hSa
   generalize st3 (V0) w.heap.size n1 (.slice vo1 D1.length vc1) sc1=V1 at *
   have r0:V1.cell? ⟨w.heap.size+1,0,none⟩=some (.bool false):=c1.out.cell 0 rfl
   have r1:V1.cell? ⟨w.heap.size+1,1,none⟩=some (.slice none 0 0):=c1.out.cell 1 rfl
   have r2:V1.cell? ⟨w.heap.size+1,2,none⟩=some (.int .i64 0):=c1.out.cell 2 rfl
   have s0:V1.frozen? ⟨w.heap.size+1,0,none⟩=false:=c1.out.free 0
   have s1:V1.frozen? ⟨w.heap.size+1,1,none⟩=false:=c1.out.free 1
   have s2:V1.frozen? ⟨w.heap.size+1,2,none⟩=false:=c1.out.free 2
   try simp only[List.getElem_toArray,List.getElem_cons_succ,List.getElem_cons_zero,Act.put,List.setIfInBounds_toArray,List.set_cons_zero,List.set_cons_succ]
   refine wpAnyH_ready (rs:=[15]) (by kernel_rfl) (by simp) ?_
   refine AllReadyH.cons rfl (fun K hK=>?_) AllReadyH.nil
   clear hS
   go_simp
   refine hK.out _ (st3 V1 (w.heap.size+1) n2 (.slice vo2 D2.length vc2) sc2) hSb.out (fun hS=>?_)
   clear hK K
   try simp only[List.getElem_toArray,List.getElem_cons_succ,List.getElem_cons_zero,Act.put,List.setIfInBounds_toArray,List.set_cons_zero,List.set_cons_succ]
   refine wpAnyH_take (i:=16) (v:=.bool false) rfl (by kernel_rfl) (by kernel_rfl) (by kernel_rfl) (fun _ _ _ h=>h) (.inl ⟨by kernel_rfl,fun _ _=>by kernel_rfl⟩) hS ?_;simp only[List.getElem_toArray,List.getElem_cons_succ,List.getElem_cons_zero,Act.put,List.setIfInBounds_toArray,List.set_cons_zero,List.set_cons_succ]
   refine wpAnyH_done (by kernel_rfl) ?_ _
   go_wp2_with fail
   exact bodyPost_ret (v:=.tuple #[.agg (numc n1 (.slice vo1 D1.length vc1) sc1),.agg (numc n2 (.slice vo2 D2.length vc2) sc2),.bool false]) (res3 rfl _ _ w.heap.size (w.heap.size+1) 167 167 _ _ (0,0) (0,0) _ _ _ rfl rfl d0.out.eq rfl d1.out.eq Tryz.underlying167 rfl infoNum Tryz.underlying167 rfl infoNum) rfl
    ⟨_,_,rfl,hbe.out,⟨n1,_,D1,sc1,rfl,hn1.out,hm1.out⟩,⟨n2,_,D2,sc2,rfl,hn2.out,hm2.out⟩⟩
  ·clear hsb2
   refine wpAnyH_take (i:=4) (v:=.bool true) rfl (by kernel_rfl) (by kernel_rfl) (by kernel_rfl) (fun _ _ _ h=>h) (.inl ⟨by kernel_rfl,fun _ _=>by kernel_rfl⟩) hS ?_;simp only[List.getElem_toArray,List.getElem_cons_succ,List.getElem_cons_zero,Act.put,List.setIfInBounds_toArray,List.set_cons_zero,List.set_cons_succ]
   refine wpAnyH_take (i:=5) (v:=.bool true) rfl (by kernel_rfl) (by kernel_rfl) (by kernel_rfl) (fun _ _ _ h=>h) (.inl ⟨by kernel_rfl,fun _ _=>by kernel_rfl⟩) hS ?_;simp only[List.getElem_toArray,List.getElem_cons_succ,List.getElem_cons_zero,Act.put,List.setIfInBounds_toArray,List.set_cons_zero,List.set_cons_succ]
   refine wpAnyH_take (i:=6) (v:=.bool true) rfl (by kernel_rfl) (by kernel_rfl) (by kernel_rfl) (fun _ _ _ h=>h) (.inl ⟨by kernel_rfl,fun _ _=>by kernel_rfl⟩) hS ?_;simp only[List.getElem_toArray,List.getElem_cons_succ,List.getElem_cons_zero,Act.put,List.setIfInBounds_toArray,List.set_cons_zero,List.set_cons_succ]
   refine wpAnyH_take (i:=7) (v:=.string a) rfl (by kernel_rfl) (by kernel_rfl) (by kernel_rfl) (fun _ _ _ h=>h) (.inl ⟨by kernel_rfl,fun _ _=>by kernel_rfl⟩) hS ?_;simp only[List.getElem_toArray,List.getElem_cons_succ,List.getElem_cons_zero,Act.put,List.setIfInBounds_toArray,List.set_cons_zero,List.set_cons_succ]
   refine wpAnyH_ready (rs:=[8]) (by kernel_rfl) (by simp) ?_
   refine AllReadyH.cons rfl (fun K hK=>?_) AllReadyH.nil
   clear hS
   go_simp
   refine(hca.out _).mono ?_
   rintro e w5 ⟨rfl,hb5⟩
   go_wp2_with fail
   refine hKo hK ((tw9.out.on hb5).held) (fun hS=>?_)
   clear hK K
   have tw5:=Hd (tw9.out.on hb5)
   have hi15:=Hd (hi19.out.below hb5)
   have hi25:=Hd (hi29.out.below hb5)
   clear tw9 hi19 hi29 hb5
   cases ca
   ·refine wpAnyH_take (i:=9) (v:=.bool false) rfl (by kernel_rfl) (by kernel_rfl) (by kernel_rfl) (fun _ _ _ h=>h) (.inl ⟨by kernel_rfl,fun _ _=>by kernel_rfl⟩) hS ?_;simp only[List.getElem_toArray,List.getElem_cons_succ,List.getElem_cons_zero,Act.put,List.setIfInBounds_toArray,List.set_cons_zero,List.set_cons_succ]
    refine wpAnyH_take (i:=10) (v:=.bool false) rfl (by kernel_rfl) (by kernel_rfl) (by kernel_rfl) (fun _ _ _ h=>h) (.inl ⟨by kernel_rfl,fun _ _=>by kernel_rfl⟩) hS ?_;simp only[List.getElem_toArray,List.getElem_cons_succ,List.getElem_cons_zero,Act.put,List.setIfInBounds_toArray,List.set_cons_zero,List.set_cons_succ]
    refine wpAnyH_take (i:=11) (v:=undef) rfl (by kernel_rfl) (by kernel_rfl) (by kernel_rfl) (fun _ _ _ h=>h) (.inr ⟨by kernel_rfl,rfl⟩) hS ?_;simp only[List.getElem_toArray,List.getElem_cons_succ,List.getElem_cons_zero,Act.put,List.setIfInBounds_toArray,List.set_cons_zero,List.set_cons_succ]
    refine wpAnyH_take (i:=12) (v:=undef) rfl (by kernel_rfl) (by kernel_rfl) (by kernel_rfl) (fun _ _ _ h=>h) (.inr ⟨by kernel_rfl,rfl⟩) hS ?_;simp only[List.getElem_toArray,List.getElem_cons_succ,List.getElem_cons_zero,Act.put,List.setIfInBounds_toArray,List.set_cons_zero,List.set_cons_succ]
    refine wpAnyH_take (i:=13) (v:=.bool false) rfl (by kernel_rfl) (by kernel_rfl) (by kernel_rfl) (fun _ _ _ h=>h) (.inl ⟨by kernel_rfl,fun _ _=>by kernel_rfl⟩) hS ?_;simp only[List.getElem_toArray,List.getElem_cons_succ,List.getElem_cons_zero,Act.put,List.setIfInBounds_toArray,List.set_cons_zero,List.set_cons_succ]
    have hT:T2 w (w5) g h (numc n1 (.slice vo1 D1.length vc1) sc1) (numc n2 (.slice vo2 D2.length vc2) sc2):=tw5.out
    have hj1:IntsAt (w5) (.slice vo1 D1.length vc1) D1:=hi15.out
    have hj2:IntsAt (w5) (.slice vo2 D2.length vc2) D2:=hi25.out
    have x0:(w5).cell? ⟨g,0,none⟩=some (.bool n1):=hT.bg.cell 0 rfl
    have x1:(w5).cell? ⟨g,1,none⟩=some (.slice vo1 D1.length vc1):=hT.bg.cell 1 rfl
    have x2:(w5).cell? ⟨g,2,none⟩=some (.int .i64 sc1):=hT.bg.cell 2 rfl
    have y0:(w5).cell? ⟨h,0,none⟩=some (.bool n2):=hT.bh.cell 0 rfl
    have y1:(w5).cell? ⟨h,1,none⟩=some (.slice vo2 D2.length vc2):=hT.bh.cell 1 rfl
    have y2:(w5).cell? ⟨h,2,none⟩=some (.int .i64 sc2):=hT.bh.cell 2 rfl
    have p0:(w5).cell? ⟨w.heap.size,0,none⟩=some (.bool false):=hT.b0.cell 0 rfl
    have p1:(w5).cell? ⟨w.heap.size,1,none⟩=some (.slice none 0 0):=hT.b0.cell 1 rfl
    have p2:(w5).cell? ⟨w.heap.size,2,none⟩=some (.int .i64 0):=hT.b0.cell 2 rfl
    have q0:(w5).frozen? ⟨w.heap.size,0,none⟩=false:=hT.b0.free 0
    have q1:(w5).frozen? ⟨w.heap.size,1,none⟩=false:=hT.b0.free 1
    have q2:(w5).frozen? ⟨w.heap.size,2,none⟩=false:=hT.b0.free 2
    have r0:(w5).cell? ⟨w.heap.size+1,0,none⟩=some (.bool false):=hT.b1.cell 0 rfl
    have r1:(w5).cell? ⟨w.heap.size+1,1,none⟩=some (.slice none 0 0):=hT.b1.cell 1 rfl
    have r2:(w5).cell? ⟨w.heap.size+1,2,none⟩=some (.int .i64 0):=hT.b1.cell 2 rfl
    have s0:(w5).frozen? ⟨w.heap.size+1,0,none⟩=false:=hT.b1.free 0
    have s1:(w5).frozen? ⟨w.heap.size+1,1,none⟩=false:=hT.b1.free 1
    have s2:(w5).frozen? ⟨w.heap.size+1,2,none⟩=false:=hT.b1.free 2
    have c0:=st3_blk n1 (.slice vo1 D1.length vc1) sc1 hT.b0
    have cg:=st3_other n1 (.slice vo1 D1.length vc1) sc1 hT.bg (show g≠w.heap.size by omega)
    have ch:=st3_other n1 (.slice vo1 D1.length vc1) sc1 hT.bh (show h≠w.heap.size by omega)
    have c1:=st3_other n1 (.slice vo1 D1.length vc1) sc1 hT.b1 (show w.heap.size+1≠w.heap.size by omega)
    have d1:=st3_blk n2 (.slice vo2 D2.length vc2) sc2 c1
    have d0:=st3_other n2 (.slice vo2 D2.length vc2) sc2 c0 (show w.heap.size≠w.heap.size+1 by omega)
    have dg:=st3_other n2 (.slice vo2 D2.length vc2) sc2 cg (show g≠w.heap.size+1 by omega)
    have dh:=st3_other n2 (.slice vo2 D2.length vc2) sc2 ch (show h≠w.heap.size+1 by omega)
    have hbe:=st3_below (st3_below hT.below (Nat.le_refl _) n1 (.slice vo1 D1.length vc1) sc1) (Nat.le_succ _) n2 (.slice vo2 D2.length vc2) sc2
    have hn1:=st3_ints n2 (.slice vo2 D2.length vc2) sc2 (b:=w.heap.size+1) (st3_ints n1 (.slice vo1 D1.length vc1) sc1 (b:=w.heap.size) hj1 (fun k hk=>by have:=hlx.out k hk;omega)) (fun k hk=>by have:=hlx.out k hk;omega)
    have hn2:=st3_ints n2 (.slice vo2 D2.length vc2) sc2 (b:=w.heap.size+1) (st3_ints n1 (.slice vo1 D1.length vc1) sc1 (b:=w.heap.size) hj2 (fun k hk=>by have:=hly.out k hk;omega)) (fun k hk=>by have:=hly.out k hk;omega)
    have hSa:T2S g h (numc n1 (.slice vo1 D1.length vc1) sc1) (numc n2 (.slice vo2 D2.length vc2) sc2) (st3 (w5) w.heap.size n1 (.slice vo1 D1.length vc1) sc1):=⟨cg,ch⟩
    have hSb:T2S g h (numc n1 (.slice vo1 D1.length vc1) sc1) (numc n2 (.slice vo2 D2.length vc2) sc2) (st3 (st3 (w5) w.heap.size n1 (.slice vo1 D1.length vc1) sc1) (w.heap.size+1) n2 (.slice vo2 D2.length vc2) sc2):=⟨dg,dh⟩
    clear c0 cg ch dg dh hj1 hj2 hT
    replace c1:=Hd c1
    replace d0:=Hd d0
    replace d1:=Hd d1
    replace hbe:=Hd hbe
    replace hn1:=Hd hn1
    replace hn2:=Hd hn2
    replace hSa:=Hd hSa
    replace hSb:=Hd hSb
    refine wpAnyH_ready (rs:=[14]) (by kernel_rfl) (by simp) ?_
    refine AllReadyH.cons rfl (fun K hK=>?_) AllReadyH.nil
    clear hS
    go_simp
    refine hK.out _ (st3 (w5) w.heap.size n1 (.slice vo1 D1.length vc1) sc1) hSa.out (fun hS=>?_)
    clear hK K
    clear x0 x1 x2 y0 y1 y2 p0 p1 p2 q0 q1 q2 r0 r1 r2 s0 s1 s2 hSa
    generalize st3 (w5) w.heap.size n1 (.slice vo1 D1.length vc1) sc1=V1 at *
    have r0:V1.cell? ⟨w.heap.size+1,0,none⟩=some (.bool false):=c1.out.cell 0 rfl
    have r1:V1.cell? ⟨w.heap.size+1,1,none⟩=some (.slice none 0 0):=c1.out.cell 1 rfl
    have r2:V1.cell? ⟨w.heap.size+1,2,none⟩=some (.int .i64 0):=c1.out.cell 2 rfl
    have s0:V1.frozen? ⟨w.heap.size+1,0,none⟩=false:=c1.out.free 0
    have s1:V1.frozen? ⟨w.heap.size+1,1,none⟩=false:=c1.out.free 1
    have s2:V1.frozen? ⟨w.heap.size+1,2,none⟩=false:=c1.out.free 2
    try simp only[List.getElem_toArray,List.getElem_cons_succ,List.getElem_cons_zero,Act.put,List.setIfInBounds_toArray,List.set_cons_zero,List.set_cons_succ]
    refine wpAnyH_ready (rs:=[15]) (by kernel_rfl) (by simp) ?_
    refine AllReadyH.cons rfl (fun K hK=>?_) AllReadyH.nil
    clear hS
    go_simp
    refine hK.out _ (st3 V1 (w.heap.size+1) n2 (.slice vo2 D2.length vc2) sc2) hSb.out (fun hS=>?_)
    clear hK K
    try simp only[List.getElem_toArray,List.getElem_cons_succ,List.getElem_cons_zero,Act.put,List.setIfInBounds_toArray,List.set_cons_zero,List.set_cons_succ]
    refine wpAnyH_take (i:=16) (v:=.bool false) rfl (by kernel_rfl) (by kernel_rfl) (by kernel_rfl) (fun _ _ _ h=>h) (.inl ⟨by kernel_rfl,fun _ _=>by kernel_rfl⟩) hS ?_;simp only[List.getElem_toArray,List.getElem_cons_succ,List.getElem_cons_zero,Act.put,List.setIfInBounds_toArray,List.set_cons_zero,List.set_cons_succ]
    refine wpAnyH_done (by kernel_rfl) ?_ _
    go_wp2_with fail
    exact bodyPost_ret (v:=.tuple #[.agg (numc n1 (.slice vo1 D1.length vc1) sc1),.agg (numc n2 (.slice vo2 D2.length vc2) sc2),.bool false]) (res3 rfl _ _ w.heap.size (w.heap.size+1) 167 167 _ _ (0,0) (0,0) _ _ _ rfl rfl d0.out.eq rfl d1.out.eq Tryz.underlying167 rfl infoNum Tryz.underlying167 rfl infoNum) rfl
     ⟨_,_,rfl,hbe.out,⟨n1,_,D1,sc1,rfl,hn1.out,hm1.out⟩,⟨n2,_,D2,sc2,rfl,hn2.out,hm2.out⟩⟩
   ·refine wpAnyH_take (i:=9) (v:=.bool true) rfl (by kernel_rfl) (by kernel_rfl) (by kernel_rfl) (fun _ _ _ h=>h) (.inl ⟨by kernel_rfl,fun _ _=>by kernel_rfl⟩) hS ?_;simp only[List.getElem_toArray,List.getElem_cons_succ,List.getElem_cons_zero,Act.put,List.setIfInBounds_toArray,List.set_cons_zero,List.set_cons_succ]
    refine wpAnyH_take (i:=10) (v:=.bool true) rfl (by kernel_rfl) (by kernel_rfl) (by kernel_rfl) (fun _ _ _ h=>h) (.inl ⟨by kernel_rfl,fun _ _=>by kernel_rfl⟩) hS ?_;simp only[List.getElem_toArray,List.getElem_cons_succ,List.getElem_cons_zero,Act.put,List.setIfInBounds_toArray,List.set_cons_zero,List.set_cons_succ]
    refine wpAnyH_take (i:=11) (v:=.string b) rfl (by kernel_rfl) (by kernel_rfl) (by kernel_rfl) (fun _ _ _ h=>h) (.inl ⟨by kernel_rfl,fun _ _=>by kernel_rfl⟩) hS ?_;simp only[List.getElem_toArray,List.getElem_cons_succ,List.getElem_cons_zero,Act.put,List.setIfInBounds_toArray,List.set_cons_zero,List.set_cons_succ]
    refine wpAnyH_ready (rs:=[12]) (by kernel_rfl) (by simp) ?_
    refine AllReadyH.cons rfl (fun K hK=>?_) AllReadyH.nil
    clear hS
    go_simp
    refine(hcb.out _).mono ?_
    rintro e w6 ⟨rfl,hb6⟩
    go_wp2_with fail
    refine hKo hK ((tw5.out.on hb6).held) (fun hS=>?_)
    clear hK K
    have tw6:=Hd (tw5.out.on hb6)
    have hi16:=Hd (hi15.out.below hb6)
    have hi26:=Hd (hi25.out.below hb6)
    clear tw5 hi15 hi25 hb6
    refine wpAnyH_take (i:=13) (v:=.bool cb) rfl (by kernel_rfl) (by kernel_rfl) (by kernel_rfl) (fun _ _ _ h=>h) (.inl ⟨by kernel_rfl,fun _ _=>by kernel_rfl⟩) hS ?_;simp only[List.getElem_toArray,List.getElem_cons_succ,List.getElem_cons_zero,Act.put,List.setIfInBounds_toArray,List.set_cons_zero,List.set_cons_succ]
    have hT:T2 w (w6) g h (numc n1 (.slice vo1 D1.length vc1) sc1) (numc n2 (.slice vo2 D2.length vc2) sc2):=tw6.out
    have hj1:IntsAt (w6) (.slice vo1 D1.length vc1) D1:=hi16.out
    have hj2:IntsAt (w6) (.slice vo2 D2.length vc2) D2:=hi26.out
    have x0:(w6).cell? ⟨g,0,none⟩=some (.bool n1):=hT.bg.cell 0 rfl
    have x1:(w6).cell? ⟨g,1,none⟩=some (.slice vo1 D1.length vc1):=hT.bg.cell 1 rfl
    have x2:(w6).cell? ⟨g,2,none⟩=some (.int .i64 sc1):=hT.bg.cell 2 rfl
    have y0:(w6).cell? ⟨h,0,none⟩=some (.bool n2):=hT.bh.cell 0 rfl
    have y1:(w6).cell? ⟨h,1,none⟩=some (.slice vo2 D2.length vc2):=hT.bh.cell 1 rfl
    have y2:(w6).cell? ⟨h,2,none⟩=some (.int .i64 sc2):=hT.bh.cell 2 rfl
    have p0:(w6).cell? ⟨w.heap.size,0,none⟩=some (.bool false):=hT.b0.cell 0 rfl
    have p1:(w6).cell? ⟨w.heap.size,1,none⟩=some (.slice none 0 0):=hT.b0.cell 1 rfl
    have p2:(w6).cell? ⟨w.heap.size,2,none⟩=some (.int .i64 0):=hT.b0.cell 2 rfl
    have q0:(w6).frozen? ⟨w.heap.size,0,none⟩=false:=hT.b0.free 0
    have q1:(w6).frozen? ⟨w.heap.size,1,none⟩=false:=hT.b0.free 1
    have q2:(w6).frozen? ⟨w.heap.size,2,none⟩=false:=hT.b0.free 2
    have r0:(w6).cell? ⟨w.heap.size+1,0,none⟩=some (.bool false):=hT.b1.cell 0 rfl
    have r1:(w6).cell? ⟨w.heap.size+1,1,none⟩=some (.slice none 0 0):=hT.b1.cell 1 rfl
    have r2:(w6).cell? ⟨w.heap.size+1,2,none⟩=some (.int .i64 0):=hT.b1.cell 2 rfl
    have s0:(w6).frozen? ⟨w.heap.size+1,0,none⟩=false:=hT.b1.free 0
    have s1:(w6).frozen? ⟨w.heap.size+1,1,none⟩=false:=hT.b1.free 1
    have s2:(w6).frozen? ⟨w.heap.size+1,2,none⟩=false:=hT.b1.free 2
    have c0:=st3_blk n1 (.slice vo1 D1.length vc1) sc1 hT.b0
    have cg:=st3_other n1 (.slice vo1 D1.length vc1) sc1 hT.bg (show g≠w.heap.size by omega)
    have ch:=st3_other n1 (.slice vo1 D1.length vc1) sc1 hT.bh (show h≠w.heap.size by omega)
    have c1:=st3_other n1 (.slice vo1 D1.length vc1) sc1 hT.b1 (show w.heap.size+1≠w.heap.size by omega)
    have d1:=st3_blk n2 (.slice vo2 D2.length vc2) sc2 c1
    have d0:=st3_other n2 (.slice vo2 D2.length vc2) sc2 c0 (show w.heap.size≠w.heap.size+1 by omega)
    have dg:=st3_other n2 (.slice vo2 D2.length vc2) sc2 cg (show g≠w.heap.size+1 by omega)
    have dh:=st3_other n2 (.slice vo2 D2.length vc2) sc2 ch (show h≠w.heap.size+1 by omega)
    have hbe:=st3_below (st3_below hT.below (Nat.le_refl _) n1 (.slice vo1 D1.length vc1) sc1) (Nat.le_succ _) n2 (.slice vo2 D2.length vc2) sc2
    have hn1:=st3_ints n2 (.slice vo2 D2.length vc2) sc2 (b:=w.heap.size+1) (st3_ints n1 (.slice vo1 D1.length vc1) sc1 (b:=w.heap.size) hj1 (fun k hk=>by have:=hlx.out k hk;omega)) (fun k hk=>by have:=hlx.out k hk;omega)
    have hn2:=st3_ints n2 (.slice vo2 D2.length vc2) sc2 (b:=w.heap.size+1) (st3_ints n1 (.slice vo1 D1.length vc1) sc1 (b:=w.heap.size) hj2 (fun k hk=>by have:=hly.out k hk;omega)) (fun k hk=>by have:=hly.out k hk;omega)
    have hSa:T2S g h (numc n1 (.slice vo1 D1.length vc1) sc1) (numc n2 (.slice vo2 D2.length vc2) sc2) (st3 (w6) w.heap.size n1 (.slice vo1 D1.length vc1) sc1):=⟨cg,ch⟩
    have hSb:T2S g h (numc n1 (.slice vo1 D1.length vc1) sc1) (numc n2 (.slice vo2 D2.length vc2) sc2) (st3 (st3 (w6) w.heap.size n1 (.slice vo1 D1.length vc1) sc1) (w.heap.size+1) n2 (.slice vo2 D2.length vc2) sc2):=⟨dg,dh⟩
    clear c0 cg ch dg dh hj1 hj2 hT
    replace c1:=Hd c1
    replace d0:=Hd d0
    replace d1:=Hd d1
    replace hbe:=Hd hbe
    replace hn1:=Hd hn1
    replace hn2:=Hd hn2
    replace hSa:=Hd hSa
    replace hSb:=Hd hSb
    refine wpAnyH_ready (rs:=[14]) (by kernel_rfl) (by simp) ?_
    refine AllReadyH.cons rfl (fun K hK=>?_) AllReadyH.nil
    clear hS
    go_simp
    refine hK.out _ (st3 (w6) w.heap.size n1 (.slice vo1 D1.length vc1) sc1) hSa.out (fun hS=>?_)
    clear hK K
    clear x0 x1 x2 y0 y1 y2 p0 p1 p2 q0 q1 q2 r0 r1 r2 s0 s1 s2 hSa
    generalize st3 (w6) w.heap.size n1 (.slice vo1 D1.length vc1) sc1=V1 at *
    have r0:V1.cell? ⟨w.heap.size+1,0,none⟩=some (.bool false):=c1.out.cell 0 rfl
    have r1:V1.cell? ⟨w.heap.size+1,1,none⟩=some (.slice none 0 0):=c1.out.cell 1 rfl
    have r2:V1.cell? ⟨w.heap.size+1,2,none⟩=some (.int .i64 0):=c1.out.cell 2 rfl
    have s0:V1.frozen? ⟨w.heap.size+1,0,none⟩=false:=c1.out.free 0
    have s1:V1.frozen? ⟨w.heap.size+1,1,none⟩=false:=c1.out.free 1
    have s2:V1.frozen? ⟨w.heap.size+1,2,none⟩=false:=c1.out.free 2
    try simp only[List.getElem_toArray,List.getElem_cons_succ,List.getElem_cons_zero,Act.put,List.setIfInBounds_toArray,List.set_cons_zero,List.set_cons_succ]
    refine wpAnyH_ready (rs:=[15]) (by kernel_rfl) (by simp) ?_
    refine AllReadyH.cons rfl (fun K hK=>?_) AllReadyH.nil
    clear hS
    go_simp
    refine hK.out _ (st3 V1 (w.heap.size+1) n2 (.slice vo2 D2.length vc2) sc2) hSb.out (fun hS=>?_)
    clear hK K
    try simp only[List.getElem_toArray,List.getElem_cons_succ,List.getElem_cons_zero,Act.put,List.setIfInBounds_toArray,List.set_cons_zero,List.set_cons_succ]
    refine wpAnyH_take (i:=16) (v:=.bool cb) rfl (by kernel_rfl) (by kernel_rfl) (by kernel_rfl) (fun _ _ _ h=>h) (.inl ⟨by kernel_rfl,fun _ _=>by kernel_rfl⟩) hS ?_;simp only[List.getElem_toArray,List.getElem_cons_succ,List.getElem_cons_zero,Act.put,List.setIfInBounds_toArray,List.set_cons_zero,List.set_cons_succ]
    refine wpAnyH_done (by kernel_rfl) ?_ _
    go_wp2_with fail
    exact bodyPost_ret (v:=.tuple #[.agg (numc n1 (.slice vo1 D1.length vc1) sc1),.agg (numc n2 (.slice vo2 D2.length vc2) sc2),.bool cb]) (res3 rfl _ _ w.heap.size (w.heap.size+1) 167 167 _ _ (0,0) (0,0) _ _ _ rfl rfl d0.out.eq rfl d1.out.eq Tryz.underlying167 rfl infoNum Tryz.underlying167 rfl infoNum) rfl
     ⟨_,_,rfl,hbe.out,⟨n1,_,D1,sc1,rfl,hn1.out,hm1.out⟩,⟨n2,_,D2,sc2,rfl,hn2.out,hm2.out⟩⟩
theorem signed_scale(s:Bool)(N c:Nat):signed s (N * c)=signed s N * (c:Int):=by
 cases s<;>simp[signed,Int.natCast_mul,Int.neg_mul]
theorem NumM.canon{a:ByteArray}{x:Int}{n:Bool}{D:List Nat}{sc L:Nat}(hz:small x)(ha:a.data.toList=canon x)(h:NumM (numP a.data.toList) n D sc L):
 dgs D∧1≤D.length∧D.length≤L∧sc≤20∧signed n (vL D * 10 ^ (20-sc))=x∧n=decide (x<0)∧vL D * 10 ^ (20-sc)=x.natAbs:=by
 obtain⟨N,s2,hn,h20,hv⟩:=numP_canon x hz
 rw[ha,hn]at h
 obtain⟨h1,h2,h3,h4,h5,h6,_⟩:=h
 simp only at h1 h2 h3
 subst h1 h3
 refine⟨h4,h5,h6,h20,?_,rfl,by rw[h2,hv]⟩
 rw[h2,hv]
 exact signed_self x
theorem canon_sz{a:ByteArray}{x:Int}(hz:small x)(ha:a.data.toList=canon x):a.size≤62:=by
 have:=canon_len x hz
 rw[←ha]at this
 simpa using this
theorem pow_len{k m v:Nat}(h1:10 ^ (k-1)≤v)(h2:v<10 ^ m):k≤m:=by
 have h3:10 ^ (k-1)<10 ^ m:=Nat.lt_of_le_of_lt h1 h2
 have:=(Nat.pow_lt_pow_iff_right (a:=10) (by decide)).1 h3
 omega
theorem plusP_le(s:Bool)(N:Nat)(t:Bool)(M:Nat):(plusP s N t M).2≤N+M:=by
 unfold plusP
 split
 ·exact Nat.le_refl _
 ·split
  ·show M-N≤N+M;omega
  ·show N-M≤N+M;omega
theorem plus_len(s t:Bool)(A B:List Nat)(sa sb S:Nat)(D:List Nat)(hA:dgs A)(hB:dgs B)(la:A.length≤200)(lb:B.length≤200)(hS:S≤20)(hv:vL D=(plusP s (10 ^ (S-sa) * vL A) t (10 ^ (S-sb) * vL B)).2)
 (h:D.length≤S-sa+A.length∨D.length≤S-sb+B.length∨10 ^ (D.length-1)≤vL D):D.length≤300:=by
 rcases h with h|h|h
 ·omega
 ·omega
 ·refine Nat.le_trans (pow_len (m:=222) h ?_) (by decide)
  rw[hv]
  have h1:=plusP_le s (10 ^ (S-sa) * vL A) t (10 ^ (S-sb) * vL B)
  have key:∀(k:Nat) (C:List Nat),k≤20→dgs C→C.length≤200→10 ^ k * vL C<10 ^ 220:=fun k C hk hC lC=>by
   have c1:=vL_lt hC
   have c2:10 ^ k * vL C<10 ^ k * 10 ^ C.length:=Nat.mul_lt_mul_of_pos_left c1 (Nat.pow_pos (by decide))
   rw[←Nat.pow_add]at c2
   exact Nat.lt_of_lt_of_le c2 (Nat.pow_le_pow_right (by decide) (by omega))
  have k1:=key (S-sa) A (by omega) hA la
  have k2:=key (S-sb) B (by omega) hB lb
  have p:10 ^ 222=100 * 10 ^ 220:=by rw[show 222=2+220 from rfl,Nat.pow_add]
  omega
theorem add_signed(s t:Bool)(A B sa sb S:Nat)(x y:Int)(hS:max sa sb=S)(ha:sa≤20)(hb:sb≤20)(hx:signed s (A * 10 ^ (20-sa))=x)(hy:signed t (B * 10 ^ (20-sb))=y):
 signed (plusP s (10 ^ (S-sa) * A) t (10 ^ (S-sb) * B)).1 ((plusP s (10 ^ (S-sa) * A) t (10 ^ (S-sb) * B)).2 * 10 ^ (20-S))=x+y:=by
 have e1:10 ^ (S-sa) * A * 10 ^ (20-S)=A * 10 ^ (20-sa):=by
  rw[Nat.mul_comm (10 ^ (S-sa)) A,Nat.mul_assoc,←Nat.pow_add,show S-sa+(20-S)=20-sa by omega]
 have e2:10 ^ (S-sb) * B * 10 ^ (20-S)=B * 10 ^ (20-sb):=by
  rw[Nat.mul_comm (10 ^ (S-sb)) B,Nat.mul_assoc,←Nat.pow_add,show S-sb+(20-S)=20-sb by omega]
 have hp:=plusP_signed s (10 ^ (S-sa) * A) t (10 ^ (S-sb) * B)
 rw[signed_scale,hp,Int.add_mul,←signed_scale,←signed_scale,e1,e2,hx,hy]
theorem refcmp_call(a b:ByteArray)(w:World)(ha:a.size≤50000)(hb:b.size≤50000):Calls Tryz.prog 130 #[.string a,.string b] w fun e w'=>e=.returned (.int .i64 (cmpR a.data.toList b.data.toList))∧Below w.heap.size w w':=by
 have h2:=two_any a b w ha hb
 obtain⟨r,hr⟩:∃r,cmpR a.data.toList b.data.toList=r:=⟨_,rfl⟩
 rw[hr]
 replace h2:=Hd h2
 replace hr:=Hd hr
 go_enter Tryz.func130,Tryz.ntmps130
 go_wp2_with fail
 refine h2.out.mono ?_
 rintro e w1 ⟨x,y,rfl,hb1,hx,hy⟩
 clear h2
 obtain⟨n1,v1,D1,s1,rfl,hi1,hm1⟩:=hx
 obtain⟨n2,v2,D2,s2,rfl,hi2,hm2⟩:=hy
 obtain⟨vo1,vc1,rfl⟩:=hi1.form
 obtain⟨vo2,vc2,rfl⟩:=hi2.form
 by_cases hc:(chk a.data.toList&&chk b.data.toList)=true
 ·skip
  rw[hc]
  have hr2:=hr.out
  unfold cmpR at hr2
  rw[if_pos hc]at hr2
  rw[Bool.and_eq_true]at hc
  obtain⟨x,zx,ex⟩:=(chk_iff _).1 hc.1
  obtain⟨y,zy,ey⟩:=(chk_iff _).1 hc.2
  obtain⟨d1,l1,m1,c1,q1,e1,f1⟩:=hm1.canon zx ex
  obtain⟨d2,l2,m2,c2,q2,e2,f2⟩:=hm2.canon zy ey
  have k1:=canon_sz zx ex
  have k2:=canon_sz zy ey
  rw[ex,ey,zof_canon x zx,zof_canon y zy]at hr2
  clear hm1 hm2 hc ex ey hr
  have o1:Below w1.heap.size w1 ((w1.alloc (.cells #[.bool n1,.slice vo1 D1.length vc1,.int .i64 s1] 167)).alloc (.cells #[.bool (!n2),.slice vo2 D2.length vc2,.int .i64 s2] 167)):=(((Keep.refl [] w1).alloc _).alloc _).below
  replace hb1:=Hd hb1
  replace hi1:=Hd hi1
  replace hi2:=Hd hi2
  replace hr2:=Hd hr2
  replace q1:=Hd q1
  replace e1:=Hd e1
  replace f1:=Hd f1
  replace e2:=Hd e2
  replace f2:=Hd f2
  replace q2:=Hd q2
  replace d1:=Hd d1
  replace d2:=Hd d2
  replace o1:=Hd o1
  go_wp2_with fail
  obtain⟨W2,hW2⟩:∃W2,W2=(w1.alloc (.cells #[.bool n1,.slice vo1 D1.length vc1,.int .i64 s1] 167)).alloc (.cells #[.bool (!n2),.slice vo2 D2.length vc2,.int .i64 s2] 167):=⟨_,rfl⟩
  rw[←hW2]at o1 ⊢
  clear hW2
  refine(rplus_any n1 (!n2) (.slice vo1 D1.length vc1) (.slice vo2 D2.length vc2) D1 D2 s1 s2 W2 (hi1.out.below o1.out) (hi2.out.below o1.out) d1.out d2.out l1 l2 (by omega) (by omega) (by omega) (by omega)).mono ?_
  rintro e w3 ⟨v3,D3,he3,hb3,hi3,d3,hv3,l3,hl3⟩
  obtain⟨S,hS⟩:∃S,max s1 s2=S:=⟨_,rfl⟩
  rw[hS]at he3 hv3 hl3
  have hS20:S≤20:=by omega
  have hle3:=plus_len n1 (!n2) D1 D2 s1 s2 S D3 d1.out d2.out (by omega) (by omega) (by omega) hv3 hl3
  have hps:=add_signed n1 (!n2) (vL D1) (vL D2) s1 s2 S x (-y) hS c1 c2 q1.out (by rw[signed_not,q2.out])
  generalize plusP n1 (10 ^ (S-s1) * vL D1) (!n2) (10 ^ (S-s2) * vL D2)=p at he3 hv3 hps
  rw[←hv3]at hps
  have he4:e=.returned (.agg #[.bool p.1,v3,.int .i64 S]):=he3
  subst he4
  obtain⟨vo3,vc3,rfl⟩:=hi3.form
  have hb13:=(hb1.out.trans (o1.out.mono hb1.out.size)).trans (hb3.mono (Nat.le_trans hb1.out.size o1.out.size))
  have hcd:=cmpD_signed p.1 (vL D3 * 10 ^ (20-S)) x y hps
  rw[hr2.out]at hcd
  have hzr:=fun W (h:IntsAt W (.slice vo3 D3.length vc3) D3)=>zero_any (.slice vo3 D3.length vc3) D3 W h (by omega)
  have o3:Below w3.heap.size w3 (w3.alloc (.cells #[.bool p.1,.slice vo3 D3.length vc3,.int .i64 S] 167)):=((Keep.refl [] w3).alloc _).below
  have hzr2:=hzr _ (hi3.below o3)
  have hb14:=Hd (hb13.trans (o3.mono hb13.size))
  clear hzr he3 hb3 hi3 hps hv3 hl3 hb13 o3 hi1 hi2
  have hcp:0<10 ^ (20-S):=Nat.pow_pos (by decide)
  by_cases hz:vL D3=0
  ·rw[decide_eq_true hz]at hzr2
   have hr4:r=0:=by rw[←hcd,hz];unfold cmpD;simp
   subst hr4
   replace hzr2:=Hd hzr2
   clear hr2 hcd
   go_wp2_with (go_at_call 148;refine hzr2.out.mono ?_;rintro e w5 ⟨rfl,rfl⟩)
   go_ret
   exact⟨rfl,hb14.out⟩
  ·rw[decide_eq_false hz]at hzr2
   have hne:vL D3 * 10 ^ (20-S)≠0:=Nat.mul_ne_zero hz (by omega)
   have hr4:r=if p.1 then -1 else 1:=by rw[←hcd];unfold cmpD;rw[if_neg hne]
   replace hzr2:=Hd hzr2
   obtain⟨p1,p2⟩:=p
   cases p1
   ·have hr5:r=1:=hr4
    subst hr5
    clear hr2 hcd hr4
    go_wp2_with (go_at_call 148;refine hzr2.out.mono ?_;rintro e w5 ⟨rfl,rfl⟩)
    go_ret
    exact⟨rfl,hb14.out⟩
   ·have hr5:r=-1:=hr4
    subst hr5
    clear hr2 hcd hr4
    go_wp2_with (go_at_call 148;refine hzr2.out.mono ?_;rintro e w5 ⟨rfl,rfl⟩)
    go_ret
    exact⟨rfl,hb14.out⟩
 ·skip
  rw[Bool.eq_false_iff.2 hc]
  have hr2:r=0:=by rw[←hr.out];unfold cmpR;rw[if_neg hc]
  subst hr2
  clear hr hm1 hm2 hi1 hi2
  replace hb1:=Hd hb1
  go_wp2
  go_ret
  exact⟨rfl,(hb1.out.alloc hb1.out.size _).alloc (by rw[World.size_alloc];have:=hb1.out.size;omega) _⟩
end Go.Proofs.YtidplkfhodpdhaaGreatDoor.dec
