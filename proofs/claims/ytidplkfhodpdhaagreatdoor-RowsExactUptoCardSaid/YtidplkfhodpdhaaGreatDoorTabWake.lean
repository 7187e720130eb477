/- Contract of the law's wakes. -/
import Derived.Test.YtidplkfhodpdhaaGreatDoorTabMinusA
set_option linter.unusedSimpArgs false
set_option linter.unusedVariables false
set_option maxRecDepth 100000
set_option maxHeartbeats 4000000
namespace Go.Proofs.YtidplkfhodpdhaaGreatDoor.tab
open Go.ChangeShapes Go.WideShapes Go.ChangeAt Go.RowKit kit dec val
open hyp (RowA TextsA CellsStay stay_of_below textsV textsV_length own_row)
theorem num9_any(w:World)(n:Int):Calls Tryz.prog 62 #[.int .i64 n] w fun e w'=>e=.returned (agg6 2 false n ⟨#[]⟩ ⟨#[]⟩ (.slice none 0 0))∧Below w.heap.size w w':=by
 unfold agg6
 go_enter Tryz.func62,Tryz.ntmps62
 go_wp2
 refine bodyPost_ret (v:=.agg #[.int .i64 2,.bool false,.int .i64 n,.string ⟨#[]⟩,.string ⟨#[]⟩,.slice none 0 0]) (results_cell_row rfl _ _ w.heap.size 52 _ (0,0) _ rfl (Blk.new w #[.int .i64 2,.bool false,.int .i64 n,.string ⟨#[]⟩,.string ⟨#[]⟩,.slice none 0 0] 52).eq Tryz.underlying52 rfl infoV6) rfl ⟨rfl,(Below.refl _ _).alloc (Nat.le_refl _) _⟩
theorem num9_lit(w:World)(n:Int):Calls Tryz.prog 62 #[.int .i64 n] w fun e w'=>e=.returned (.agg #[.int .i64 2,.bool false,.int .i64 n,.string ⟨#[]⟩,.string ⟨#[]⟩,.slice none 0 0])∧Below w.heap.size w w':=num9_any w n
theorem field_rows(n c n2 c2:Nat)(a b:Option Addr)(w:World):(Instr.field 25 (.agg #[.slice a n c,.slice b n2 c2]) 1).run Tryz.prog w=.ok (.slice b n2 c2) w:=by kernel_rfl
def wA:Tab:=⟨[⟨#[120]⟩],[[numV9 1],[nullV]]⟩
def wB:Tab:=⟨[⟨#[120]⟩,⟨#[121]⟩],[[numV9 1,numV9 2],[numV9 3,numV9 4]]⟩
def wJ:Tab:=⟨[⟨#[120]⟩,⟨#[121]⟩],[[numV9 1,numV9 2],[numV9 1,numV9 2],[numV9 3,numV9 4]]⟩
theorem wake_join:joinZ wA wB=wJ:=by kernel_rfl
theorem wake_minus:(minusZ wA wB).rows.length=1:=by kernel_rfl
theorem wake_may:mayT wA=true:=by kernel_rfl
theorem wakes9_any(w:World)(hE:Env w):Calls Tryz.prog 22 #[] w fun e w'=>e=.returned (.bool true)∧Below w.heap.size w w':=by
 go_enter Tryz.func22,Tryz.ntmps22
 go_wp2_with fail
 refine(num9_any _ _).mono ?_
 rintro e w1 ⟨rfl,hb1⟩
 unfold agg6
 go_upto_region 2 with fail
 have hb1w:=((Below.refl w.heap.size w).alloc (Nat.le_refl _) (.cells #[.string ⟨#[120]⟩] 9)).trans (hb1.mono (by rw[World.size_alloc];omega))
 have n0:Blk w1 w.heap.size #[.string ⟨#[120]⟩] 9:=(Blk.new w #[.string ⟨#[120]⟩] 9).keep (Keep.ofBelow hb1) (by simp)
 have hsz1:=hb1w.size
 obtain⟨w2,hw2⟩:∃w2,(((w1.alloc (.cells #[.int .i64 2,.bool false,.int .i64 1,.string ⟨#[]⟩,.string ⟨#[]⟩,.slice none 0 0] 52)).alloc (.cells #[.int .i64 0,.bool false,.int .i64 0,.string ⟨#[]⟩,.string ⟨#[]⟩,.slice none 0 0] 52)).alloc (.cells #[.slice (some ⟨w1.heap.size,0,none⟩) 1 1,.slice (some ⟨w1.heap.size+1,0,none⟩) 1 1] 37)).alloc (.cells #[.slice (some ⟨w.heap.size,0,none⟩) 1 1,.slice (some ⟨w1.heap.size+1+1,0,none⟩) 2 2] 25)=w2:=⟨_,rfl⟩
 have hb12:Below w1.heap.size w1 w2:=by
  rw[←hw2]
  exact((((Below.refl _ _).alloc (Nat.le_refl _) _).alloc (by simp) _).alloc (by simp;omega) _).alloc (by simp;omega) _
 have s2:w2.heap.size=w1.heap.size+4:=by rw[←hw2];simp
 have r0:Blk w2 w1.heap.size #[.int .i64 2,.bool false,.int .i64 1,.string ⟨#[]⟩,.string ⟨#[]⟩,.slice none 0 0] 52:=by
  rw[←hw2]
  exact(((Blk.new w1 _ _).alloc _).alloc _).alloc _
 have r1:Blk w2 (w1.heap.size+1) #[.int .i64 0,.bool false,.int .i64 0,.string ⟨#[]⟩,.string ⟨#[]⟩,.slice none 0 0] 52:=by
  have h:=((Blk.new (w1.alloc (.cells #[.int .i64 2,.bool false,.int .i64 1,.string ⟨#[]⟩,.string ⟨#[]⟩,.slice none 0 0] 52)) #[.int .i64 0,.bool false,.int .i64 0,.string ⟨#[]⟩,.string ⟨#[]⟩,.slice none 0 0] 52).alloc (.cells #[.slice (some ⟨w1.heap.size,0,none⟩) 1 1,.slice (some ⟨w1.heap.size+1,0,none⟩) 1 1] 37)).alloc (.cells #[.slice (some ⟨w.heap.size,0,none⟩) 1 1,.slice (some ⟨w1.heap.size+1+1,0,none⟩) 2 2] 25)
  rw[World.size_alloc]at h
  rw[←hw2]
  exact h
 have r2:Blk w2 (w1.heap.size+1+1) #[.slice (some ⟨w1.heap.size,0,none⟩) 1 1,.slice (some ⟨w1.heap.size+1,0,none⟩) 1 1] 37:=by
  have h:=(Blk.new ((w1.alloc (.cells #[.int .i64 2,.bool false,.int .i64 1,.string ⟨#[]⟩,.string ⟨#[]⟩,.slice none 0 0] 52)).alloc (.cells #[.int .i64 0,.bool false,.int .i64 0,.string ⟨#[]⟩,.string ⟨#[]⟩,.slice none 0 0] 52)) #[.slice (some ⟨w1.heap.size,0,none⟩) 1 1,.slice (some ⟨w1.heap.size+1,0,none⟩) 1 1] 37).alloc (.cells #[.slice (some ⟨w.heap.size,0,none⟩) 1 1,.slice (some ⟨w1.heap.size+1+1,0,none⟩) 2 2] 25)
  rw[World.size_alloc,World.size_alloc]at h
  rw[←hw2]
  exact h
 have r3:Blk w2 (w1.heap.size+1+1+1) #[.slice (some ⟨w.heap.size,0,none⟩) 1 1,.slice (some ⟨w1.heap.size+1+1,0,none⟩) 2 2] 25:=by
  have h:=Blk.new (((w1.alloc (.cells #[.int .i64 2,.bool false,.int .i64 1,.string ⟨#[]⟩,.string ⟨#[]⟩,.slice none 0 0] 52)).alloc (.cells #[.int .i64 0,.bool false,.int .i64 0,.string ⟨#[]⟩,.string ⟨#[]⟩,.slice none 0 0] 52)).alloc (.cells #[.slice (some ⟨w1.heap.size,0,none⟩) 1 1,.slice (some ⟨w1.heap.size+1,0,none⟩) 1 1] 37)) #[.slice (some ⟨w.heap.size,0,none⟩) 1 1,.slice (some ⟨w1.heap.size+1+1,0,none⟩) 2 2] 25
  rw[World.size_alloc,World.size_alloc,World.size_alloc]at h
  rw[←hw2]
  exact h
 have tA:TabA w2 1048576 (.agg #[.slice (some ⟨w.heap.size,0,none⟩) 1 1,.slice (some ⟨w1.heap.size+1+1,0,none⟩) 2 2]) wA:=⟨_,_,rfl,texts_blk (l:=[⟨#[120]⟩]) ((hb12.block _ n0.lt).trans n0) (by decide) (by intro s hs;rw[List.mem_singleton]at hs;rw[hs];decide),
  rows_blk (vs:=[.slice (some ⟨w1.heap.size,0,none⟩) 1 1,.slice (some ⟨w1.heap.size+1,0,none⟩) 1 1]) r2 rfl (by simp) (fun j h h'=>by
   match j,h with
   |0,_=>exact la_num1 (by omega) r0 (by unfold In64;omega)
   |1,_=>exact la_null1 (by omega) r1)⟩
 have hb2:=hb1w.trans (hb12.mono hb1w.size)
 have hE2:=hE.below hb2
 replace tA:=Hd tA
 replace r3:=Hd r3
 replace hb2:=Hd hb2
 replace hE2:=Hd hE2
 rw[hw2]
 have s1:Hid (w.heap.size≤w1.heap.size):=Hd hsz1
 clear r0 r1 r2 n0 hb12 hw2 hb1w hsz1 hb1 hE s2
 go_wp2_with fail
 refine(num9_any _ _).mono ?_
 rintro e w3 ⟨rfl,hb3⟩
 unfold agg6
 go_wp2_with fail
 refine(num9_any _ _).mono ?_
 rintro e w4 ⟨rfl,hb4⟩
 unfold agg6
 go_wp2_with fail
 refine(num9_any _ _).mono ?_
 rintro e w5 ⟨rfl,hb5⟩
 unfold agg6
 go_wp2_with fail
 refine(num9_any _ _).mono ?_
 rintro e w6 ⟨rfl,hb6⟩
 unfold agg6
 go_upto_region 3 with fail
 have hb23:=((Below.refl w2.heap.size w2).alloc (Nat.le_refl _) (.cells #[.string ⟨#[120]⟩,.string ⟨#[121]⟩] 9)).trans (hb3.mono (by rw[World.size_alloc];omega))
 have hb24:=hb23.trans (hb4.mono hb23.size)
 have hb45:=((Below.refl w4.heap.size w4).alloc (Nat.le_refl _) (.cells #[.int .i64 2,.bool false,.int .i64 1,.string ⟨#[]⟩,.string ⟨#[]⟩,.slice none 0 0,.int .i64 2,.bool false,.int .i64 2,.string ⟨#[]⟩,.string ⟨#[]⟩,.slice none 0 0] 52)).trans (hb5.mono (by rw[World.size_alloc];omega))
 have hb46:=hb45.trans (hb6.mono hb45.size)
 have hb26:=hb24.trans (hb46.mono hb24.size)
 have n0:Blk w6 w2.heap.size #[.string ⟨#[120]⟩,.string ⟨#[121]⟩] 9:=((((Blk.new w2 #[.string ⟨#[120]⟩,.string ⟨#[121]⟩] 9).keep (Keep.ofBelow hb3) (by simp)).keep (Keep.ofBelow hb4) (by simp)).keep (Keep.ofBelow hb46) (by simp))
 have q0:Blk w6 w4.heap.size #[.int .i64 2,.bool false,.int .i64 1,.string ⟨#[]⟩,.string ⟨#[]⟩,.slice none 0 0,.int .i64 2,.bool false,.int .i64 2,.string ⟨#[]⟩,.string ⟨#[]⟩,.slice none 0 0] 52:=((Blk.new w4 #[.int .i64 2,.bool false,.int .i64 1,.string ⟨#[]⟩,.string ⟨#[]⟩,.slice none 0 0,.int .i64 2,.bool false,.int .i64 2,.string ⟨#[]⟩,.string ⟨#[]⟩,.slice none 0 0] 52).keep (Keep.ofBelow hb5) (by simp)).keep (Keep.ofBelow hb6) (by simp)
 obtain⟨w7,hw7⟩:∃w7,((w6.alloc (.cells #[.int .i64 2,.bool false,.int .i64 3,.string ⟨#[]⟩,.string ⟨#[]⟩,.slice none 0 0,.int .i64 2,.bool false,.int .i64 4,.string ⟨#[]⟩,.string ⟨#[]⟩,.slice none 0 0] 52)).alloc (.cells #[.slice (some ⟨w4.heap.size,0,none⟩) 2 2,.slice (some ⟨w6.heap.size,0,none⟩) 2 2] 37)).alloc (.cells #[.slice (some ⟨w2.heap.size,0,none⟩) 2 2,.slice (some ⟨w6.heap.size+1,0,none⟩) 2 2] 25)=w7:=⟨_,rfl⟩
 have hb67:Below w6.heap.size w6 w7:=by
  rw[←hw7]
  exact(((Below.refl _ _).alloc (Nat.le_refl _) _).alloc (by simp) _).alloc (by simp;omega) _
 have q1:Blk w7 w6.heap.size #[.int .i64 2,.bool false,.int .i64 3,.string ⟨#[]⟩,.string ⟨#[]⟩,.slice none 0 0,.int .i64 2,.bool false,.int .i64 4,.string ⟨#[]⟩,.string ⟨#[]⟩,.slice none 0 0] 52:=by
  rw[←hw7]
  exact((Blk.new w6 _ _).alloc _).alloc _
 have q2:Blk w7 (w6.heap.size+1) #[.slice (some ⟨w4.heap.size,0,none⟩) 2 2,.slice (some ⟨w6.heap.size,0,none⟩) 2 2] 37:=by
  have h:=(Blk.new (w6.alloc (.cells #[.int .i64 2,.bool false,.int .i64 3,.string ⟨#[]⟩,.string ⟨#[]⟩,.slice none 0 0,.int .i64 2,.bool false,.int .i64 4,.string ⟨#[]⟩,.string ⟨#[]⟩,.slice none 0 0] 52)) #[.slice (some ⟨w4.heap.size,0,none⟩) 2 2,.slice (some ⟨w6.heap.size,0,none⟩) 2 2] 37).alloc (.cells #[.slice (some ⟨w2.heap.size,0,none⟩) 2 2,.slice (some ⟨w6.heap.size+1,0,none⟩) 2 2] 25)
  rw[World.size_alloc]at h
  rw[←hw7]
  exact h
 have q3:Blk w7 (w6.heap.size+1+1) #[.slice (some ⟨w2.heap.size,0,none⟩) 2 2,.slice (some ⟨w6.heap.size+1,0,none⟩) 2 2] 25:=by
  have h:=Blk.new ((w6.alloc (.cells #[.int .i64 2,.bool false,.int .i64 3,.string ⟨#[]⟩,.string ⟨#[]⟩,.slice none 0 0,.int .i64 2,.bool false,.int .i64 4,.string ⟨#[]⟩,.string ⟨#[]⟩,.slice none 0 0] 52)).alloc (.cells #[.slice (some ⟨w4.heap.size,0,none⟩) 2 2,.slice (some ⟨w6.heap.size,0,none⟩) 2 2] 37)) #[.slice (some ⟨w2.heap.size,0,none⟩) 2 2,.slice (some ⟨w6.heap.size+1,0,none⟩) 2 2] 25
  rw[World.size_alloc,World.size_alloc]at h
  rw[←hw7]
  exact h
 have tB:TabA w7 1048576 (.agg #[.slice (some ⟨w2.heap.size,0,none⟩) 2 2,.slice (some ⟨w6.heap.size+1,0,none⟩) 2 2]) wB:=⟨_,_,rfl,texts_blk (l:=[⟨#[120]⟩,⟨#[121]⟩]) ((hb67.block _ n0.lt).trans n0) (by decide) (by
  intro s hs
  simp only[List.mem_cons,List.not_mem_nil,or_false]at hs
  rcases hs with rfl|rfl<;>decide),
  rows_blk (vs:=[.slice (some ⟨w4.heap.size,0,none⟩) 2 2,.slice (some ⟨w6.heap.size,0,none⟩) 2 2]) q2 rfl (by simp) (fun j h h'=>by
   match j,h with
   |0,_=>exact la_num2 (n:=1) (m:=2) (by omega) ((hb67.block _ q0.lt).trans q0) (by unfold In64;omega) (by unfold In64;omega)
   |1,_=>exact la_num2 (n:=3) (m:=4) (by omega) q1 (by unfold In64;omega) (by unfold In64;omega))⟩
 have hb27:=hb26.trans (hb67.mono hb26.size)
 have tA7:=Hd (tA.out.stay hb27)
 have r37:=r3.out.keep (Keep.ofBelow hb27) (by simp)
 have hb7:=Hd (hb2.out.trans (hb27.mono hb2.out.size))
 have hE7:=hE2.out.below hb27
 have x0:=r37.cell 0 rfl
 have x1:=r37.cell 1 rfl
 have y0:=q3.cell 0 rfl
 have y1:=q3.cell 1 rfl
 have hj:=join_any 1048576 (by omega) w7 hE7 _ _ wA wB tA7.out tB (by decide) (by decide) (by decide) (by decide) (by omega) (by decide)
 rw[wake_join]at hj
 have hm:=Hd (fun V (h:Below w7.heap.size w7 V)=>minus_any 1048576 (by omega) V (hE7.below h) _ _ wA wB (tA7.out.stay h) (tB.stay h) (by decide) (by decide) (by decide) (by decide) (by omega))
 have hc:=fun V (h:Below w7.heap.size w7 V)=>checkT_any 1048576 (by omega) V (hE7.below h) _ wA (tA7.out.stay h) (by decide) (by decide)
 rw[wake_may]at hc
 replace hj:=Hd hj
 replace hc:=Hd hc
 rw[hw7]
 clear hb23 hb24 hb45 hb46 hb26 n0 q0 hb67 q1 q2 q3 tB hb27 r37 tA r3 hb2 hE2 hE7 hb3 hb4 hb5 hb6 hw7 tA7 s1
 go_wp2_with fail
 refine hj.out.mono ?_
 rintro e w8 ⟨v,rfl,hO⟩
 obtain⟨vv,rv,rfl,hb78,hown,hszs,hMR⟩:=hO
 obtain⟨an,cn,hvn⟩:=own_form4x hown
 obtain⟨ar,cr,hvr⟩:=hMR.form
 have hvn2:vv=.slice an 2 cn:=hvn
 have hvr2:rv=.slice ar 3 cr:=hvr
 subst hvn2
 subst hvr2
 have hTj:TextsA w8 w8.heap.size (.slice an 2 cn) [⟨#[120]⟩,⟨#[121]⟩]:=⟨own_row (by rw[textsV_length];exact hown),hszs⟩
 obtain⟨_,_,e1,-,hrc⟩:=hMR.read.form
 obtain⟨g2,o2,a2,c2,e2,hg2,hcell,hla⟩:=hrc 2 (by decide)
 injection e1 with e1 e1b e1c
 clear e1b e1c
 subst e1
 subst e2
 obtain⟨g4,o4,k4,bo4,n4,t4,x4,l4,aoE,capE,e4,he,hr,hok,hsl⟩:=la_at hla 1 (by decide)
 subst e4
 have he2:numV9 4=.mk k4 bo4 n4 t4 x4 l4:=he
 unfold numV9 at he2
 injection he2 with f0 f1 f2 f3 f4 f5
 subst f0 f1 f2 f3 f4 f5
 have h89:Below w8.heap.size w8 (w8.alloc (.cells #[.slice an 2 cn,.slice (some ⟨g2,o2,none⟩) 3 cr] 25)).drew:=((Below.refl _ _).alloc (Nat.le_refl _) _).drew
 have h79:=hb78.trans (h89.mono hb78.size)
 have z:=(Blk.new w8 #[.slice an 2 cn,.slice (some ⟨g2,o2,none⟩) 3 cr] 25).drewN 1
 have hTj9:=TextsA.below hTj h89
 have hsl9:=hsl.stay h89
 have x0':=sB h79 x0
 have x1':=sB h79 x1
 have y0':=sB h79 y0
 have y1':=sB h79 y1
 have hcell2:w8.cell? ⟨g2,o2+2,none⟩=some (.slice (some ⟨g4,o4,none⟩) 2 c2):=hcell
 have hcell':=sB h89 hcell2
 have hr':=hr.below h89
 clear x0 x1 y0 y1 hr hok hsl hla hcell hcell2 hg2 hTj hMR hown hszs hj
 go_upto_region 4 with fail
 have z':Blk (w8.alloc (.cells #[.slice an 2 cn,.slice (some ⟨g2,o2,none⟩) 3 cr] 25)).drew w8.heap.size #[.slice an 2 cn,.slice (some ⟨g2,o2,none⟩) 3 cr] 25:=z
 have hb9:=Hd (hb7.out.trans (h79.mono hb7.out.size))
 clear z h89 hb78
 refine wp_region_held_drew (S:=fun V=>Below (w8.alloc (.cells #[.slice an 2 cn,.slice (some ⟨g2,o2,none⟩) 3 cr] 25)).drew.heap.size (w8.alloc (.cells #[.slice an 2 cn,.slice (some ⟨g2,o2,none⟩) 3 cr] 25)).drew V) (by kernel_rfl) (Below.refl _ _) (fun hS=>?_)
 obtain⟨p3,hp3⟩:∃p3,w8.heap.size=p3:=⟨_,rfl⟩
 rw[hp3]at z'
 try rw[hp3]
 generalize (w8.alloc (.cells #[.slice an 2 cn,.slice (some ⟨g2,o2,none⟩) 3 cr] 25)).drew=V0 at *
 have z0:=z'.cell 0 rfl
 have z1:=z'.cell 1 rfl
 refine tkS [0,1] ?_
 iterate 2
  refine tkC ?_ rfl (fun w' hS=>?_) hS ?_
  rotate_left
  ·
   have u0:=sB hS z0
   go_simp
   try with_reducible rfl
 have h01:Below V0.heap.size V0 (V0.alloc (.cells #[.string ⟨#[120]⟩,.string ⟨#[121]⟩] 9)):=(Below.refl _ _).alloc (Nat.le_refl _) _
 have hEq:=Hd (eqT_same (V0.alloc (.cells #[.string ⟨#[120]⟩,.string ⟨#[121]⟩] 9)) (.slice an 2 cn) (.slice (some ⟨V0.heap.size,0,none⟩) 2 2) [⟨#[120]⟩,⟨#[121]⟩] (TextsA.below hTj9 h01) (texts_blk (l:=[⟨#[120]⟩,⟨#[121]⟩]) (Blk.new V0 #[.string ⟨#[120]⟩,.string ⟨#[121]⟩] 9) (by decide) hTj9.size) (by decide))
 refine rdH 2 rfl (fun K hK=>?_)
 clear hS
 go_simp
 go_wp2_with fail
 refine hKo hK h01 (fun hS=>?_)
 clear hK K
 refine rdH 3 rfl (fun K hK=>?_)
 clear hS
 go_simp
 refine(hEq.out).mono ?_
 rintro e w10 ⟨rfl,hb10⟩
 go_wp2_with fail
 refine hKo hK (h01.trans (hb10.mono h01.size)) (fun hS=>?_)
 clear hK K
 have h010:=h01.trans (hb10.mono h01.size)
 clear hEq h01 hb10
 refine tkS [4,5,6,7,8,9,10,11,12,13,14,15,16] ?_
 iterate 13
  refine tkC ?_ rfl (fun w' hS=>?_) hS ?_
  rotate_left
  ·
   have u1:=sB hS z1;have u2:=sB hS hcell';obtain⟨v0,v1,v2,v3,v4,v5⟩:=(hr'.below hS).six
   go_simp
   try with_reducible rfl
 refine rdH 17 rfl (fun K hK=>?_)
 clear hS
 go_simp
 refine(num9_lit _ _).mono ?_
 rintro e w11 ⟨rfl,hb11⟩
 go_wp2_with fail
 refine hKo hK (h010.trans (hb11.mono h010.size)) (fun hS=>?_)
 clear hK K
 have h011:=h010.trans (hb11.mono h010.size)
 clear h010 hb11
 have hsm:=rsame_call 1048576 (by omega) w11 2 false 4 ⟨#[]⟩ ⟨#[]⟩ (.slice aoE 0 capE) [] 2 false 4 ⟨#[]⟩ ⟨#[]⟩ (.slice none 0 0) [] (hsl9.stay h011) (la_nil _ _)
 rw[show sameP (.mk 2 false 4 ⟨#[]⟩ ⟨#[]⟩ []) (.mk 2 false 4 ⟨#[]⟩ ⟨#[]⟩ [])=true by rfl]at hsm
 unfold agg6 at hsm
 replace hsm:=Hd hsm
 refine rdH 18 rfl (fun K hK=>?_)
 clear hS
 go_simp
 refine(hsm.out).mono ?_
 rintro e w12 ⟨rfl,hb12⟩
 go_wp2_with fail
 refine hKo hK (h011.trans (hb12.mono h011.size)) (fun hS=>?_)
 clear hK K
 have h012:=h011.trans (hb12.mono h011.size)
 clear h011 hb12 hsm
 refine tkS [19,20,21,22] ?_
 iterate 4
  refine tkC ?_ rfl (fun w' hS=>?_) hS ?_
  rotate_left
  ·
   have u1:=sB hS x0';have u2:=sB hS x1';have u3:=sB hS y0';have u4:=sB hS y1'
   go_simp
   try with_reducible rfl
 have hmm:=Hd (hm.out w12 (h79.trans (h012.mono h79.size)))
 refine rdH 23 rfl (fun K hK=>?_)
 clear hS
 go_simp
 refine hmm.out.mono ?_
 rintro e w13 ⟨v,rfl,hO⟩
 obtain⟨vv,rv,rfl,hb13,hown,-,hMR⟩:=hO
 obtain⟨an2,cn2,hvn⟩:=own_form4x hown
 subst hvn
 obtain⟨ar2,cr2,hvr⟩:=hMR.form
 rw[wake_minus]at hvr
 subst hvr
 have h013:=h012.trans (hb13.mono h012.size)
 clear hown hMR hb13 h012 hm hmm
 go_wp2_with fail
 refine hKo hK h013 (fun hS=>?_)
 clear hK K
 refine tkS [24,25,26,27,28,29] ?_
 iterate 6
  refine tkC ?_ rfl (fun w' hS=>?_) hS ?_
  rotate_left
  ·
   have hfl:=field_rows;have u1:=sB hS x0';have u2:=sB hS x1'
   go_simp
   try with_reducible rfl
 have hcc:=Hd (hc.out w13 (h79.trans (h013.mono h79.size)))
 refine rdH 30 rfl (fun K hK=>?_)
 clear hS
 go_simp
 refine(hcc.out).mono ?_
 rintro e w14 ⟨rfl,hb14⟩
 go_wp2_with fail
 refine hKo hK (h013.trans (hb14.mono h013.size)) (fun hS=>?_)
 clear hK K
 have h014:=h013.trans (hb14.mono h013.size)
 have hfin:=Hd (hb9.out.trans (h014.mono hb9.out.size))
 clear h014 hb14 h013
 refine tkS [31,32] ?_
 iterate 2
  refine tkC ?_ rfl (fun w' hS=>?_) hS ?_
  rotate_left
  ·
   skip
   go_simp
   try with_reducible rfl
 refine wpAnyH_done (by kernel_rfl) ?_ _
 clear hS
 go_wp2
 go_ret
 exact⟨rfl,hfin.out⟩
end Go.Proofs.YtidplkfhodpdhaaGreatDoor.tab
