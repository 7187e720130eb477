/- Texts ValTruth, DecCmpA, ValNumB, VPlain, ValCmp, VNum, one behind the other. -/
import Derived.Test.YtcaeipdgbaligaaGreatDoorDecC
import Derived.ChangeKeysEq
set_option linter.unusedSimpArgs false
set_option linter.unusedVariables false
set_option maxRecDepth 100000
namespace Go.Proofs.YtcaeipdgbaligaaGreatDoor.val
open Go.ChangeShapes Go.WideShapes Go.ChangeAt Go.RowKit kit dec
def EW(V w:World):Prop:=Below V.heap.size V w∧Env V
theorem EW.env{V w:World}(h:EW V w):Env w:=h.2.below h.1
theorem EW.step{V w w':World}(h:EW V w)(hb:Below w.heap.size w w'):EW V w':=⟨h.1.trans (hb.mono h.1.size),h.2⟩
theorem EW.start{V:World}(h:Env V):EW V V:=⟨Below.refl _ _,h⟩
theorem EW.drewN{V w:World}(h:EW V w)(n:Nat):EW V (w.drewN n):=h.step (Below_drewN n (Below.refl _ _))
theorem EW.alloc{V w:World}(h:EW V w)(o:Obj):EW V (w.alloc o):=h.step ((Below.refl _ _).alloc (Nat.le_refl _) _)
theorem truth_any(b:Bool)(w:World):Calls Tryz.prog 103 #[.bool b] w fun e w'=>e=.returned (.int .i64 (if b then 1 else 0))∧w'=w:=by
 cases b
 ·go_enter Tryz.func103,Tryz.ntmps103
  go_wp2
  go_ret
  exact⟨rfl,rfl⟩
 ·go_enter Tryz.func103,Tryz.ntmps103
  go_wp2
  go_ret
  exact⟨rfl,rfl⟩
end Go.Proofs.YtcaeipdgbaligaaGreatDoor.val
set_option linter.unusedSimpArgs false
set_option linter.unusedVariables false
set_option maxRecDepth 100000
set_option maxHeartbeats 2000000
namespace Go.Proofs.YtcaeipdgbaligaaGreatDoor.dec
open Go.ChangeShapes Go.WideShapes Go.ChangeAt Go.RowKit kit
def allZ(f:Nat→Nat):Bool:=(List.range 16).all fun i=>f i==0
theorem eqItems_words(d:Nat)(f g:Nat→Nat)(w:World)(is:List Nat)(h:∀i∈is,i<16):
 (Op.eqItems (d+1) 177 1 (wv f) (wv g) is).run Tryz.prog w=.ok (is.all fun i=>f i==g i) w:=by
 induction is with
 |nil=>rfl
 | cons i is ih =>
  have hi:=h i (by simp)
  have px:∀f:Nat→Nat,(part 177 (wv f) (i * 1)).run Tryz.prog w=.ok (.int .u64 (f i:Nat)) w:=by
   intro f
   have:=wv_get f i hi
   simp[part,isAgg,run_underlying Tryz.underlying177,this]
  have pe:(Op.equalIn (d+1) 177 (.int .u64 (f i:Nat)) (.int .u64 (g i:Nat))).run Tryz.prog w=.ok (f i==g i) w:=by
   rw[run_equalIn_int w d 177 .u64 .u64 _ _ Tryz.underlying177]
   congr 1
   rw[Bool.eq_iff_iff];simp;omega
  simp only[Op.eqItems,Sem.run_bind,px,pe,Result.andThen_ok,List.all_cons]
  cases f i==g i
  ·simp
  ·simpa using ih fun j hj=>h j (by simp[hj])
theorem eq_words(f:Nat→Nat)(w:World):(Op.equalIn 10000 179 (.agg (wv f)) (.agg #[.int .u64 0,.int .u64 0,.int .u64 0,.int .u64 0,.int .u64 0,.int .u64 0,.int .u64 0,.int .u64 0,.int .u64 0,.int .u64 0,.int .u64 0,.int .u64 0,.int .u64 0,.int .u64 0,.int .u64 0,.int .u64 0])).run Tryz.prog w=.ok (allZ f) w:=by
 obtain⟨i,hi,_⟩:=Option.map_eq_some_iff.1 (show(Tryz.prog.info? 177).map (·.size)=some 1 by kernel_rfl)
 have hc:Tryz.prog.cellsOf 177=1:=by kernel_rfl
 have:=run_equalIn_array (P:=Tryz.prog) w 9999 (wv f) (wv fun _=>0) Tryz.underlying179 hi
 rw[hc,eqItems_words 9998 f (fun _=>0) w (List.range 16) (fun i hi=>List.mem_range.1 hi)]at this
 rw[←wv_zero]
 exact this
theorem allZ_wd(N:Nat)(hN:N<B9 ^ 16):allZ (wd N)=decide (N=0):=by
 unfold allZ
 by_cases h:N=0
 ·subst h;rw[wd_zero];rfl
 ·rw[decide_eq_false h]
  apply Bool.eq_false_iff.2
  intro hall
  have h0:∀n,n≤16→vs (wd N) n=0:=by
   intro n
   induction n with
   |zero=>intro _;rfl
   |succ n ih=>
    intro hn
    have h1:=List.all_eq_true.1 hall n (List.mem_range.2 (by omega))
    have h2:wd N n=0:=by simpa using h1
    rw[vs,ih (by omega),h2,Nat.zero_mul]
  have:=h0 16 (Nat.le_refl _)
  rw[vs_wd,Nat.mod_eq_of_lt hN]at this
  exact h this
theorem cmp_no(a b:ByteArray)(w:World)(hE:Env w)(hc:(chk a.data.toList&&chk b.data.toList)=false):
 Calls Tryz.prog 119 #[.string a,.string b] w fun e w'=>e=.returned (.int .i64 0)∧Below w.heap.size w w':=by
 have hb:=fun w hE=>both_any a b w hE
 rw[hc,num_eq,num_eq]at hb
 generalize decide (zof a.data.toList<0)=s at *
 generalize decide (zof b.data.toList<0)=t at *
 generalize wd (zof a.data.toList).natAbs=f at *
 generalize wd (zof b.data.toList).natAbs=g at *
 replace hb:=Hd hb
 replace hE:=Hd hE
 go_enter Tryz.func119,Tryz.ntmps119
 go_wp2_with fail
 refine(hb.out _ hE.out).mono ?_
 rintro e w1 ⟨rfl,hb1⟩
 have q0:Blk ((w1.alloc (.cells (nv false fun _=>0) 181)).alloc (.cells (nv false fun _=>0) 181)) w1.heap.size (nv false fun _=>0) 181:=(Blk.new _ _ _).alloc _
 have q1:Blk (((w1.alloc (.cells (nv false fun _=>0) 181)).alloc (.cells (nv false fun _=>0) 181)).setRow w1.heap.size (nv s f)) (w1.heap.size+1) (nv false fun _=>0) 181:=by
  have:=Blk.new (w1.alloc (.cells (nv false fun _=>0) 181)) (nv false fun _=>0) 181
  rw[World.size_alloc]at this
  exact this.setRow_other (by omega)
 have nw:=NW.made hb1 s t f g
 rw[nv_falses]at q0 q1 nw
 replace q0:=Hd q0
 replace q1:=Hd q1
 replace nw:=Hd nw
 go_wp2_with (first|(with_reducible refine wpList_store_rowTo rfl 181 (.tmp 5) (.tmp 13) rfl rfl w1.heap.size (nv s f) rfl rfl 181 _ (Blk.eq q0.out) (by rw[nv_size];exact Tryz.infoN) (zerosTo s f) (nv_one _ _) ?_)|(with_reducible refine wpList_store_rowTo rfl 181 (.tmp 6) (.tmp 14) rfl rfl (w1.heap.size+1) (nv t g) rfl rfl 181 _ (Blk.eq q1.out) (by rw[nv_size];exact Tryz.infoN) (zerosTo t g) (nv_one _ _) ?_))
 go_ret
 exact⟨rfl,nw.out.keep.below⟩
def cmpD(s:Bool)(N:Nat):Int:=if N=0 then 0 else if s then -1 else 1
theorem cmpD_signed(s:Bool)(N:Nat)(x y:Int)(h:signed s N=x-y):cmpD s N=cmpI x y:=by
 unfold cmpD cmpI
 unfold signed at h
 by_cases hN:N=0
 ·subst hN
  have:x=y:=by cases s<;>simp at h<;>omega
  rw[if_pos rfl,if_pos this]
 ·cases s
  ·have h1:(N:Int)=x-y:=by simpa using h
   rw[if_neg hN,if_neg (by decide),if_neg (by omega),if_neg (by omega)]
  ·have h1:-(N:Int)=x-y:=by simpa using h
   rw[if_neg hN,if_pos rfl,if_neg (by omega),if_pos (by omega)]
theorem cmp_yes(a b:ByteArray)(w:World)(hE:Env w)(hc:(chk a.data.toList&&chk b.data.toList)=true):
 Calls Tryz.prog 119 #[.string a,.string b] w fun e w'=>e=.returned (.int .i64 (cmpI (zof a.data.toList) (zof b.data.toList)))∧Below w.heap.size w w':=by
 have hb:=fun w hE=>both_any a b w hE
 rw[hc,num_eq,num_eq]at hb
 have hN:(zof a.data.toList).natAbs<top:=zof_small _
 have hM:(zof b.data.toList).natAbs<top:=zof_small _
 have hN':=small_lt (zof_small a.data.toList)
 have hM':=small_lt (zof_small b.data.toList)
 have hfin:cmpD (plusP (decide (zof a.data.toList<0)) (zof a.data.toList).natAbs (!decide (zof b.data.toList<0)) (zof b.data.toList).natAbs).1 (plusP (decide (zof a.data.toList<0)) (zof a.data.toList).natAbs (!decide (zof b.data.toList<0)) (zof b.data.toList).natAbs).2=cmpI (zof a.data.toList) (zof b.data.toList):=by
  apply cmpD_signed
  rw[plusP_signed,signed_not,signed_self,signed_self,Int.sub_eq_add_neg]
 generalize cmpI (zof a.data.toList) (zof b.data.toList)=R at *
 generalize decide (zof a.data.toList<0)=s at *
 generalize decide (zof b.data.toList<0)=t at *
 generalize (zof a.data.toList).natAbs=N at *
 generalize (zof b.data.toList).natAbs=M at *
 obtain⟨f,hf⟩:∃f,wd N=f:=⟨_,rfl⟩
 obtain⟨g,hg⟩:∃g,wd M=g:=⟨_,rfl⟩
 rw[hf,hg]at hb
 replace hb:=Hd hb
 replace hE:=Hd hE
 replace hN:=Hd hN
 replace hM:=Hd hM
 replace hN':=Hd hN'
 replace hM':=Hd hM'
 replace hf:=Hd hf
 replace hg:=Hd hg
 replace hfin:=Hd hfin
 go_enter Tryz.func119,Tryz.ntmps119
 go_wp2_with fail
 refine(hb.out _ hE.out).mono ?_
 rintro e w1 ⟨rfl,hb1⟩
 have q0:Blk ((w1.alloc (.cells (nv false fun _=>0) 181)).alloc (.cells (nv false fun _=>0) 181)) w1.heap.size (nv false fun _=>0) 181:=(Blk.new _ _ _).alloc _
 have q1:Blk (((w1.alloc (.cells (nv false fun _=>0) 181)).alloc (.cells (nv false fun _=>0) 181)).setRow w1.heap.size (nv s f)) (w1.heap.size+1) (nv false fun _=>0) 181:=by
  have:=Blk.new (w1.alloc (.cells (nv false fun _=>0) 181)) (nv false fun _=>0) 181
  rw[World.size_alloc]at this
  exact this.setRow_other (by omega)
 have nw:=NW.made hb1 s t f g
 rw[nv_falses]at q0 q1 nw
 replace q0:=Hd q0
 replace q1:=Hd q1
 replace nw:=Hd nw
 go_upto_region 4 with(first|(with_reducible refine wpList_store_rowTo rfl 181 (.tmp 5) (.tmp 13) rfl rfl w1.heap.size (nv s f) rfl rfl 181 _ (Blk.eq q0.out) (by rw[nv_size];exact Tryz.infoN) (zerosTo s f) (nv_one _ _) ?_)|(with_reducible refine wpList_store_rowTo rfl 181 (.tmp 6) (.tmp 14) rfl rfl (w1.heap.size+1) (nv t g) rfl rfl 181 _ (Blk.eq q1.out) (by rw[nv_size];exact Tryz.infoN) (zerosTo t g) (nv_one _ _) ?_))
 generalize (((w1.alloc (.cells #[.bool false,.int .u64 0,.int .u64 0,.int .u64 0,.int .u64 0,.int .u64 0,.int .u64 0,.int .u64 0,.int .u64 0,.int .u64 0,.int .u64 0,.int .u64 0,.int .u64 0,.int .u64 0,.int .u64 0,.int .u64 0,.int .u64 0] 181)).alloc (.cells #[.bool false,.int .u64 0,.int .u64 0,.int .u64 0,.int .u64 0,.int .u64 0,.int .u64 0,.int .u64 0,.int .u64 0,.int .u64 0,.int .u64 0,.int .u64 0,.int .u64 0,.int .u64 0,.int .u64 0,.int .u64 0,.int .u64 0] 181)).setRow w1.heap.size (nv s f)).setRow (w1.heap.size+1) (nv t g)=W at *;clear q0 q1
 obtain⟨c0,c1,fz⟩:=nw.out.cells
 have nn:=nw.out.neg (!t)
 replace nn:=Hd nn
 go_wp2_with (first|(with_reducible refine wpList_load_row rfl 181 (.tmp 5) rfl (w1.heap.size) rfl 181 _ (0,0) _ (Blk.eq nn.out.b0) Tryz.underlying181 rfl (by rw[nv_size];exact Tryz.infoN) ?_)|(with_reducible refine wpList_load_row rfl 181 (.tmp 6) rfl (w1.heap.size+1) rfl 181 _ (0,0) _ (Blk.eq nn.out.b1) Tryz.underlying181 rfl (by rw[nv_size];exact Tryz.infoN) ?_))
 rw[←hf.out,←hg.out]
 refine(plus_any s (!t) N M _ hN'.out hM'.out).mono ?_
 rintro e w2 ⟨rfl,hb2⟩
 have nk:=nn.out.below hb2
 have hlt:=plusP_lt s N (!t) M hN.out hM.out
 generalize plusP s N (!t) M=p at *
 obtain⟨s',D⟩:=p
 have hR:cmpD s' D=R:=hfin.out
 have hz:allZ (wd D)=decide (D=0):=allZ_wd D hlt
 have heq:=eq_words (wd D)
 dsimp only
 clear hfin hlt hb2 nn nw c0 c1 fz
 generalize wd D=d at *
 have r0:Blk (w2.alloc (.cells (nv false fun _=>0) 181)) w2.heap.size (nv false fun _=>0) 181:=Blk.new _ _ _
 have b3:Blk ((w2.alloc (.cells (nv false fun _=>0) 181)).setRow w2.heap.size (nv s' d)) w2.heap.size (nv s' d) 181:=r0.setRow
 have k3:Keep [] w ((w2.alloc (.cells (nv false fun _=>0) 181)).setRow w2.heap.size (nv s' d)):=(nk.keep.alloc _).setRow (by have:=nk.keep.size;omega) _
 rw[nv_falses]at r0 b3 k3
 replace nk:=Hd nk
 replace r0:=Hd r0
 replace b3:=Hd b3
 replace k3:=Hd k3
 replace hR:=Hd hR
 replace hz:=Hd hz
 go_upto_region 6 with(first|(with_reducible refine wpList_store_rowTo rfl 181 (.tmp 8) (.tmp 24) rfl rfl w2.heap.size (nv s' d) rfl rfl 181 _ (Blk.eq r0.out) (by rw[nv_size];exact Tryz.infoN) (zerosTo s' d) (nv_one _ _) ?_))
 clear r0
 generalize (w2.alloc (.cells #[.bool false,.int .u64 0,.int .u64 0,.int .u64 0,.int .u64 0,.int .u64 0,.int .u64 0,.int .u64 0,.int .u64 0,.int .u64 0,.int .u64 0,.int .u64 0,.int .u64 0,.int .u64 0,.int .u64 0,.int .u64 0,.int .u64 0] 181)).setRow w2.heap.size (nv s' d)=W3 at *
 replace b3:=b3.out
 have c3:W3.cell? ⟨w2.heap.size,0,none⟩=some (.bool s'):=b3.cell _ (nv_zero _ _)
 by_cases h0:D=0
 ·have hz':allZ d=true:=by rw[hz.out,decide_eq_true h0]
  have hR':Hid ((0:Int)=R):=by have:=hR.out;unfold cmpD at this;rw[if_pos h0]at this;exact this
  rw[hz']at heq
  clear hR hz h0 hz'
  have hR:=hR'
  clear hR'
  go_wp2_with (first|(with_reducible refine wpList_load_mid rfl 179 (.tmp 26) rfl (w2.heap.size) 1 rfl _ _ (nv_range b3) Tryz.underlying179 rfl (by rw[wv_len];exact Tryz.infoW) ?_))
  go_ret
  exact⟨ret_int hR.out,k3.out.below⟩
 ·have hz':allZ d=false:=by rw[hz.out,decide_eq_false h0]
  rw[hz']at heq
  have hR':(if s'=true then(-1:Int) else 1)=R:=by have:=hR.out;unfold cmpD at this;rw[if_neg h0]at this;exact this
  clear hR hz h0 hz'
  cases s'
  ·have hR:Hid ((1:Int)=R):=hR'
   clear hR'
   go_wp2_with (first|(with_reducible refine wpList_load_mid rfl 179 (.tmp 26) rfl (w2.heap.size) 1 rfl _ _ (nv_range b3) Tryz.underlying179 rfl (by rw[wv_len];exact Tryz.infoW) ?_))
   go_ret
   exact⟨ret_int hR.out,k3.out.below⟩
  ·have hR:Hid ((-1:Int)=R):=hR'
   clear hR'
   go_wp2_with (first|(with_reducible refine wpList_load_mid rfl 179 (.tmp 26) rfl (w2.heap.size) 1 rfl _ _ (nv_range b3) Tryz.underlying179 rfl (by rw[wv_len];exact Tryz.infoW) ?_))
   go_ret
   exact⟨ret_int hR.out,k3.out.below⟩
def cmpR(a b:List UInt8):Int:=if chk a&&chk b then cmpI (zof a) (zof b) else 0
theorem cmp_call(a b:ByteArray)(w:World)(hE:Env w):Calls Tryz.prog 119 #[.string a,.string b] w fun e w'=>e=.returned (.int .i64 (cmpR a.data.toList b.data.toList))∧Below w.heap.size w w':=by
 unfold cmpR
 cases hc:(chk a.data.toList&&chk b.data.toList)
 ·exact cmp_no a b w hE hc
 ·exact cmp_yes a b w hE hc
end Go.Proofs.YtcaeipdgbaligaaGreatDoor.dec
namespace Go.Proofs.YtcaeipdgbaligaaGreatDoor.val
open Go.ChangeShapes Go.WideShapes Go.ChangeAt Go.RowKit kit dec
theorem nan_any(a:Int)(w:World):Calls Tryz.prog 152 #[.int .i64 a] w fun e w'=>e=.returned (.bool false)∧w'=w:=by
 go_enter Tryz.func152,Tryz.ntmps152
 go_wp2
 go_ret
 exact⟨ret_bool (by simp),rfl⟩
theorem cmp64_any(a b:Int)(w:World):Calls Tryz.prog 133 #[.int .i64 a,.int .i64 b] w fun e w'=>e=.returned (.int .i64 (cmpI a b))∧w'=w:=by
 by_cases h:a<b
 ·have hc:cmpI a b=-1:=by unfold cmpI;rw[if_neg (by omega),if_pos h]
  rw[hc]
  clear hc
  go_enter Tryz.func133,Tryz.ntmps133
  go_wp2_with (go_at_call 152;refine(nan_any _ _).mono ?_;rintro e w' ⟨rfl,rfl⟩)
  go_ret
  exact⟨rfl,rfl⟩
 ·by_cases h2:b<a
  ·have hc:cmpI a b=1:=by unfold cmpI;rw[if_neg (by omega),if_neg h]
   rw[hc]
   clear hc
   go_enter Tryz.func133,Tryz.ntmps133
   go_wp2_with (go_at_call 152;refine(nan_any _ _).mono ?_;rintro e w' ⟨rfl,rfl⟩)
   go_ret
   exact⟨rfl,rfl⟩
  ·have hc:cmpI a b=0:=by unfold cmpI;rw[if_pos (by omega)]
   rw[hc]
   clear hc
   go_enter Tryz.func133,Tryz.ntmps133
   go_wp2_with (go_at_call 152;refine(nan_any _ _).mono ?_;rintro e w' ⟨rfl,rfl⟩)
   go_ret
   exact⟨rfl,rfl⟩
end Go.Proofs.YtcaeipdgbaligaaGreatDoor.val
set_option linter.unusedSimpArgs false
set_option linter.unusedVariables false
set_option maxRecDepth 100000
namespace Go.Proofs.YtcaeipdgbaligaaGreatDoor.val
open Go.ChangeShapes Go.WideShapes Go.ChangeAt Go.RowKit kit dec
theorem number_any(k:Int)(b:Bool)(n:Int)(t x:ByteArray)(s:Value)(w:World):Calls Tryz.prog 68 #[agg6 k b n t x s] w fun e w'=>e=.returned (.bool (decide (k=2∨k=3)))∧Below w.heap.size w w':=by
 have hb:Below w.heap.size w (w.alloc (.cells #[.int .i64 k,.bool b,.int .i64 n,.string t,.string x,s] 38)):=(Below.refl _ _).alloc (Nat.le_refl _) _
 unfold agg6
 by_cases h2:k=2
 ·subst h2
  go_enter Tryz.func68,Tryz.ntmps68
  go_wp2
  go_ret
  exact⟨rfl,hb⟩
 ·by_cases h3:k=3
  ·subst h3
   go_enter Tryz.func68,Tryz.ntmps68
   go_wp2
   go_ret
   exact⟨rfl,hb⟩
  ·have q2:(k==2)=false:=by simpa using h2
   have q3:(k==3)=false:=by simpa using h3
   rw[decide_eq_false (by omega)]
   clear h2 h3
   go_enter Tryz.func68,Tryz.ntmps68
   go_wp2
   go_ret
   exact⟨rfl,hb⟩
end Go.Proofs.YtcaeipdgbaligaaGreatDoor.val
set_option linter.unusedSimpArgs false
set_option linter.unusedVariables false
namespace Go.Proofs.YtcaeipdgbaligaaGreatDoor.val
open Go.RowKit dec
def In1(p:Int):Prop:=p=-1∨p=0∨p=1
theorem cmpI_lt(x y:Int):cmpI x y<0↔x<y:=by
 unfold cmpI
 split
 ·omega
 ·split<;>omega
theorem cmpI_zero(x y:Int):cmpI x y=0↔x=y:=by
 unfold cmpI
 split
 ·omega
 ·split<;>omega
def isNum(k:Int):Bool:=decide (k=2∨k=3)
def numV(k n:Int)(t:ByteArray):Int:=if k=2 then n * E20 else if chk t.data.toList then zof t.data.toList else 0
def aliS(k k2:Int)(same:Bool):Int:=
 if(k=5∨k=6∨k=7)∨(k2=5∨k2=6∨k2=7) then 2
 else if same then 1
 else if(k=10∧(k2=2∨k2=3∨k2=10∨k2=4∨k2=1))∨(k2=10∧(k=2∨k=3∨k=10∨k=4∨k=1)) then 2 else 0
mutual
def eqlV(s:Bool):V→V→Int
 |.mk k b n t x l,.mk k2 b2 n2 t2 x2 l2=>
  if k=0∨k2=0 then 2
  else if isNum k&&isNum k2 then b2i (decide (numV k n t=numV k2 n2 t2))
  else if s then aliS k k2 (sameP (.mk k b n t x l) (.mk k2 b2 n2 t2 x2 l2))
  else if k=5∧k2=5 then(if l.length=l2.length then eqlL s l l2 else 0)
  else b2i (sameP (.mk k b n t x l) (.mk k2 b2 n2 t2 x2 l2))
def eqlL(s:Bool):List V→List V→Int
 |v::l,u::m=>if eqlV s v u=0 then 0 else if eqlL s l m=0 then 0 else if eqlV s v u=2 then 2 else eqlL s l m
 |_,_=>1
end
def equalV(s:Bool)(v u:V):Int:=if mayV v&&mayV u then eqlV s v u else 2
def lessW:V→V→Int
 |.mk k b n t x l,.mk k2 b2 n2 t2 x2 l2=>
  if isNum k&&isNum k2 then b2i (decide (numV k n t<numV k2 n2 t2))
  else if k=4∧k2=4 then b2i (Op.bytesLess t.toList t2.toList)
  else if k=1∧k2=1 then b2i (!b&&b2)
  else 2
def lessV(v u:V):Int:=if mayV v&&mayV u then lessW v u else 2
open Go.RowKit dec
theorem In1.neg{p:Int}(h:In1 p):In1 (-p):=by unfold In1 at *;omega
theorem aliS_in(k k2:Int)(q:Bool):aliS k k2 q=0∨aliS k k2 q=1∨aliS k k2 q=2:=by
 unfold aliS
 repeat' split
 all_goals simp
theorem b2i_in(b:Bool):b2i b=0∨b2i b=1∨b2i b=2:=by cases b<;>simp[b2i]
mutual
theorem eqlV_in(s:Bool):∀v u:V,eqlV s v u=0∨eqlV s v u=1∨eqlV s v u=2
 |.mk k b n t x l,.mk k2 b2 n2 t2 x2 l2=>by
  rw[eqlV]
  have:=eqlL_in s l l2
  repeat' split
  all_goals first|exact b2i_in _|exact aliS_in _ _ _|assumption|simp
theorem eqlL_in(s:Bool):∀v u:List V,eqlL s v u=0∨eqlL s v u=1∨eqlL s v u=2
 |[],[]=>by rw[eqlL]<;>simp
 |[],_::_=>by rw[eqlL]<;>simp
 |_::_,[]=>by rw[eqlL]<;>simp
 |v::l,u::m=>by
  rw[eqlL]
  have:=eqlL_in s l m
  repeat' split
  all_goals first|assumption|simp
end
theorem equalV_in(s:Bool)(v u:V):equalV s v u=0∨equalV s v u=1∨equalV s v u=2:=by
 unfold equalV
 split
 ·exact eqlV_in s v u
 ·simp
end Go.Proofs.YtcaeipdgbaligaaGreatDoor.val
set_option linter.unusedSimpArgs false
set_option linter.unusedVariables false
set_option maxRecDepth 100000
namespace Go.Proofs.YtcaeipdgbaligaaGreatDoor.val
open Go.ChangeShapes Go.WideShapes Go.ChangeAt Go.RowKit kit dec
end Go.Proofs.YtcaeipdgbaligaaGreatDoor.val
set_option linter.unusedSimpArgs false
set_option linter.unusedVariables false
set_option maxRecDepth 100000
namespace Go.Proofs.YtcaeipdgbaligaaGreatDoor.val
open Go.ChangeShapes Go.WideShapes Go.ChangeAt Go.RowKit kit dec
theorem cmp_e20(n m:Int)(t u:ByteArray):cmpI (numV 2 n t) (numV 2 m u)=cmpI n m:=by
 have hp:=E20_pos
 have h0:(0:Int)<(E20:Int):=by omega
 unfold numV
 rw[if_pos rfl,if_pos rfl]
 unfold cmpI
 by_cases h:n=m
 ·rw[if_pos h,if_pos (by rw[h])]
 ·rw[if_neg h,if_neg (fun e=>h (Int.eq_of_mul_eq_mul_right (by omega) e))]
  by_cases h2:n<m
  ·rw[if_pos h2,if_pos (Int.mul_lt_mul_of_pos_right h2 h0)]
  ·rw[if_neg h2,if_neg (fun e=>h2 (Int.lt_of_mul_lt_mul_right e (Int.le_of_lt h0)))]
theorem exact_call(k:Int)(b:Bool)(n:Int)(hn:In64 n)(t x:ByteArray)(s:Value)(w:World)(hE:EnvD w):Calls Tryz.prog 71 #[agg6 k b n t x s] w fun e w'=>∃u:ByteArray,e=.returned (.string u)∧(chk u.data.toList=true∧zof u.data.toList=numV k n t)∧Below w.heap.size w w':=by
 have hb:Below w.heap.size w (w.alloc (.cells #[.int .i64 k,.bool b,.int .i64 n,.string t,.string x,s] 38)):=(Below.refl _ _).alloc (Nat.le_refl _) _
 have hof:=ofInt_call n (w.alloc (.cells #[.int .i64 k,.bool b,.int .i64 n,.string t,.string x,s] 38)) (hE.below hb) hn.1 hn.2
 have hck:=chk_any t (w.alloc (.cells #[.int .i64 k,.bool b,.int .i64 n,.string t,.string x,s] 38)) (hE.env.below hb)
 have hbk:Blk (w.alloc (.cells #[.int .i64 k,.bool b,.int .i64 n,.string t,.string x,s] 38)) w.heap.size #[.int .i64 k,.bool b,.int .i64 n,.string t,.string x,s] 38:=Blk.new _ _ _
 have h1:chk (tx (canon (n * E20))).data.toList=true∧zof (tx (canon (n * E20))).data.toList=n * E20:=⟨chk_canon _ (ofInt_small n hn.1 hn.2),zof_canon _ (ofInt_small n hn.1 hn.2)⟩
 have h0:chk [48,46,48]=true∧zof [48,46,48]=0:=by
  rw[show([48,46,48]:List UInt8)=canon 0 by kernel_rfl]
  exact⟨chk_canon 0 (by unfold small top;decide),zof_canon 0 (by unfold small top;decide)⟩
 have h3:∀c,chk t.data.toList=c→(c=true→chk t.data.toList=true∧zof t.data.toList=(if chk t.data.toList then zof t.data.toList else 0))∧(c=false→(0:Int)=(if chk t.data.toList then zof t.data.toList else 0)):=fun c hc=>⟨fun h=>by rw[hc,h];exact⟨rfl,rfl⟩,fun h=>by rw[hc,h];rfl⟩
 unfold numV
 generalize canon (n * E20)=R at *
 obtain⟨c,hc⟩:∃c,chk t.data.toList=c:=⟨_,rfl⟩
 have h4:=h3 c hc
 rw[hc]at hck
 replace h0:=Hd h0
 replace h1:=Hd h1
 replace h4:=Hd h4
 clear h3 hc
 replace hof:=Hd hof
 replace hck:=Hd hck
 unfold agg6
 by_cases h2:k=2
 ·subst h2
  go_enter Tryz.func71,Tryz.ntmps71
  go_wp2_with fail
  refine hof.out.mono ?_
  rintro e w2 ⟨rfl,hb2⟩
  go_wp2
  go_ret
  exact⟨_,rfl,h1.out,hb.trans (hb2.mono hb.size)⟩
 ·have q2:(k==2)=false:=by simpa using h2
  rw[if_neg h2]
  clear h2 hof h1
  generalize (if chk t.data.toList=true then zof t.data.toList else 0)=Z at *
  cases c
  ·go_enter Tryz.func71,Tryz.ntmps71
   go_wp2_with fail
   refine hck.out.mono ?_
   rintro e w2 ⟨rfl,hb2⟩
   go_wp2
   go_ret
   exact⟨_,rfl,⟨h0.out.1,h0.out.2.trans (h4.out.2 (by simp))⟩,hb.trans (hb2.mono hb.size)⟩
  ·go_enter Tryz.func71,Tryz.ntmps71
   go_wp2_with fail
   refine hck.out.mono ?_
   rintro e w2 ⟨rfl,hb2⟩
   have c3:w2.cell? ⟨w.heap.size,3,none⟩=some (.string t):=(hbk.keep (Keep.ofBelow hb2) (by simp)).cell 3 rfl
   go_wp2
   go_ret
   exact⟨_,rfl,h4.out.1 (by simp),hb.trans (hb2.mono hb.size)⟩
theorem compare_call(k:Int)(b:Bool)(n:Int)(hn:In64 n)(t x:ByteArray)(s:Value)(k2:Int)(bb:Bool)(n2:Int)(hn2:In64 n2)(t2 x2:ByteArray)(s2:Value)(w:World)(hE:EnvD w):
 Calls Tryz.prog 104 #[agg6 k b n t x s,agg6 k2 bb n2 t2 x2 s2] w fun e w'=>e=.returned (.int .i64 (cmpI (numV k n t) (numV k2 n2 t2)))∧Below w.heap.size w w':=by
 have h2:=B2.made w (c6 k b n t x s) (c6 k2 bb n2 t2 x2 s2)
 have hex:=fun W hE=>exact_call k b n hn t x s W hE
 have hex2:=fun W hE=>exact_call k2 bb n2 hn2 t2 x2 s2 W hE
 unfold agg6 at hex hex2 ⊢
 unfold c6 at h2
 replace hex:=Hd hex
 replace hex2:=Hd hex2
 replace hE:=Hd hE
 by_cases hkk:k=2∧k2=2
 ·obtain⟨rfl,rfl⟩:=hkk
  have hcc:=Hd (cmp_e20 n n2 t t2)
  clear hex hex2
  generalize cmpI (numV 2 n t) (numV 2 n2 t2)=R at *
  go_enter Tryz.func104,Tryz.ntmps104
  go_wp2_with (go_at_call 133;refine(cmp64_any _ _ _).mono ?_;rintro e w' ⟨rfl,rfl⟩)
  go_ret
  exact⟨ret_int hcc.out.symm,h2.below⟩
 ·obtain⟨q,hq⟩:∃q:Bool,(k==2)=q:=⟨_,rfl⟩
  obtain⟨q2,hq2⟩:∃q:Bool,(k2==2)=q:=⟨_,rfl⟩
  have hqq:(q&&q2)=false:=by
   rw[←hq,←hq2]
   apply Bool.eq_false_iff.2
   intro h
   rw[Bool.and_eq_true,beq_iff_eq,beq_iff_eq]at h
   exact hkk h
  clear hkk
  generalize numV k n t=Z1 at *
  generalize numV k2 n2 t2=Z2 at *
  go_enter Tryz.func104,Tryz.ntmps104
  cases q
  ·clear hqq
   go_upto_region 3 with fail
   generalize (w.alloc (.cells #[.int .i64 k,.bool b,.int .i64 n,.string t,.string x,s] 38)).alloc (.cells #[.int .i64 k2,.bool bb,.int .i64 n2,.string t2,.string x2,s2] 38)=W at *
   have hd:=h2.on (below_drewN (Below.refl _ _) 1)
   have hS0:B2 w W.drew _ _:=hd
   refine wp_region_held_drew (S:=fun V=>B2 w V #[.int .i64 k,.bool b,.int .i64 n,.string t,.string x,s] #[.int .i64 k2,.bool bb,.int .i64 n2,.string t2,.string x2,s2]) (by kernel_rfl) hS0 (fun hS=>?_)
   clear hS0 hd h2
   generalize W.drew=V0 at *
   have hV:=hS
   refine wpAnyH_take (i:=0) (v:=.agg #[.int .i64 k,.bool b,.int .i64 n,.string t,.string x,s]) rfl (by kernel_rfl) (by kernel_rfl) (by kernel_rfl) (fun _ _ _ h=>h) (.inl ⟨by kernel_rfl,fun w' hS=>by have x0:=hS.b0.cell 0 rfl;have x1:=hS.b0.cell 1 rfl;have x2:=hS.b0.cell 2 rfl;have x3:=hS.b0.cell 3 rfl;have x4:=hS.b0.cell 4 rfl;have x5:=hS.b0.cell 5 rfl;go_simp;try exact⟨rfl,rfl,rfl⟩⟩) hS ?_;simp only[List.getElem_toArray,List.getElem_cons_succ,List.getElem_cons_zero,Act.put,List.setIfInBounds_toArray,List.set_cons_zero,List.set_cons_succ]
   refine wpAnyH_take (i:=2) (v:=.agg #[.int .i64 k2,.bool bb,.int .i64 n2,.string t2,.string x2,s2]) rfl (by kernel_rfl) (by kernel_rfl) (by kernel_rfl) (fun _ _ _ h=>h) (.inl ⟨by kernel_rfl,fun w' hS=>by have x0:=hS.b1.cell 0 rfl;have x1:=hS.b1.cell 1 rfl;have x2:=hS.b1.cell 2 rfl;have x3:=hS.b1.cell 3 rfl;have x4:=hS.b1.cell 4 rfl;have x5:=hS.b1.cell 5 rfl;go_simp;try exact⟨rfl,rfl,rfl⟩⟩) hS ?_;simp only[List.getElem_toArray,List.getElem_cons_succ,List.getElem_cons_zero,Act.put,List.setIfInBounds_toArray,List.set_cons_zero,List.set_cons_succ]
   refine wpAnyH_ready (rs:=[1]) (by kernel_rfl) (by simp) ?_
   refine AllReadyH.cons rfl (fun K hK=>?_) AllReadyH.nil
   clear hS
   go_simp
   refine(hex.out _ (hE.out.below hV.below)).mono ?_
   rintro e w5 ⟨u5,rfl,hu5,hb5⟩
   go_wp2_with fail
   refine hKo hK (hV.on hb5) (fun hS=>?_)
   clear hK K
   replace hu5:=Hd hu5
   have hV5:=hV.on hb5
   refine wpAnyH_ready (rs:=[3]) (by kernel_rfl) (by simp) ?_
   refine AllReadyH.cons rfl (fun K hK=>?_) AllReadyH.nil
   clear hS
   go_simp
   refine(hex2.out _ (hE.out.below hV5.below)).mono ?_
   rintro e w6 ⟨u6,rfl,hu6,hb6⟩
   go_wp2_with fail
   refine hKo hK (hV5.on hb6) (fun hS=>?_)
   clear hK K
   replace hu6:=Hd hu6
   have hV6:=hV5.on hb6
   refine wpAnyH_ready (rs:=[4]) (by kernel_rfl) (by simp) ?_
   refine AllReadyH.cons rfl (fun K hK=>?_) AllReadyH.nil
   clear hS
   go_simp
   refine(cmp_call u5 u6 _ (hE.out.env.below hV6.below)).mono ?_
   rintro e w7 ⟨rfl,hb7⟩
   go_wp2_with fail
   refine hKo hK (hV6.on hb7) (fun hS=>?_)
   clear hK K
   have hV7:=hV6.on hb7
   generalize hr:cmpR u5.data.toList u6.data.toList=r at *
   replace hr:=Hd hr
   refine wpAnyH_take (i:=5) (v:=.int .i64 r) rfl (by kernel_rfl) (by kernel_rfl) (by kernel_rfl) (fun _ _ _ h=>h) (.inl ⟨by kernel_rfl,fun _ _=>by kernel_rfl⟩) hS ?_;simp only[List.getElem_toArray,List.getElem_cons_succ,List.getElem_cons_zero,Act.put,List.setIfInBounds_toArray,List.set_cons_zero,List.set_cons_succ]
   refine wpAnyH_done (by kernel_rfl) ?_ _
   go_wp2_with fail
   go_ret
   exact⟨ret_int (by rw[←hr.out];unfold cmpR;rw[hu5.out.1,hu6.out.1,hu5.out.2,hu6.out.2];rfl),hV7.below⟩
  ·obtain rfl:q2=false:=by simpa using hqq
   go_upto_region 3 with fail
   generalize (w.alloc (.cells #[.int .i64 k,.bool b,.int .i64 n,.string t,.string x,s] 38)).alloc (.cells #[.int .i64 k2,.bool bb,.int .i64 n2,.string t2,.string x2,s2] 38)=W at *
   have hd:=h2.on (below_drewN (Below.refl _ _) 1)
   have hS0:B2 w W.drew _ _:=hd
   refine wp_region_held_drew (S:=fun V=>B2 w V #[.int .i64 k,.bool b,.int .i64 n,.string t,.string x,s] #[.int .i64 k2,.bool bb,.int .i64 n2,.string t2,.string x2,s2]) (by kernel_rfl) hS0 (fun hS=>?_)
   clear hS0 hd h2
   generalize W.drew=V0 at *
   have hV:=hS
   refine wpAnyH_take (i:=0) (v:=.agg #[.int .i64 k,.bool b,.int .i64 n,.string t,.string x,s]) rfl (by kernel_rfl) (by kernel_rfl) (by kernel_rfl) (fun _ _ _ h=>h) (.inl ⟨by kernel_rfl,fun w' hS=>by have x0:=hS.b0.cell 0 rfl;have x1:=hS.b0.cell 1 rfl;have x2:=hS.b0.cell 2 rfl;have x3:=hS.b0.cell 3 rfl;have x4:=hS.b0.cell 4 rfl;have x5:=hS.b0.cell 5 rfl;go_simp;try exact⟨rfl,rfl,rfl⟩⟩) hS ?_;simp only[List.getElem_toArray,List.getElem_cons_succ,List.getElem_cons_zero,Act.put,List.setIfInBounds_toArray,List.set_cons_zero,List.set_cons_succ]
   refine wpAnyH_take (i:=2) (v:=.agg #[.int .i64 k2,.bool bb,.int .i64 n2,.string t2,.string x2,s2]) rfl (by kernel_rfl) (by kernel_rfl) (by kernel_rfl) (fun _ _ _ h=>h) (.inl ⟨by kernel_rfl,fun w' hS=>by have x0:=hS.b1.cell 0 rfl;have x1:=hS.b1.cell 1 rfl;have x2:=hS.b1.cell 2 rfl;have x3:=hS.b1.cell 3 rfl;have x4:=hS.b1.cell 4 rfl;have x5:=hS.b1.cell 5 rfl;go_simp;try exact⟨rfl,rfl,rfl⟩⟩) hS ?_;simp only[List.getElem_toArray,List.getElem_cons_succ,List.getElem_cons_zero,Act.put,List.setIfInBounds_toArray,List.set_cons_zero,List.set_cons_succ]
   refine wpAnyH_ready (rs:=[1]) (by kernel_rfl) (by simp) ?_
   refine AllReadyH.cons rfl (fun K hK=>?_) AllReadyH.nil
   clear hS
   go_simp
   refine(hex.out _ (hE.out.below hV.below)).mono ?_
   rintro e w5 ⟨u5,rfl,hu5,hb5⟩
   go_wp2_with fail
   refine hKo hK (hV.on hb5) (fun hS=>?_)
   clear hK K
   replace hu5:=Hd hu5
   have hV5:=hV.on hb5
   refine wpAnyH_ready (rs:=[3]) (by kernel_rfl) (by simp) ?_
   refine AllReadyH.cons rfl (fun K hK=>?_) AllReadyH.nil
   clear hS
   go_simp
   refine(hex2.out _ (hE.out.below hV5.below)).mono ?_
   rintro e w6 ⟨u6,rfl,hu6,hb6⟩
   go_wp2_with fail
   refine hKo hK (hV5.on hb6) (fun hS=>?_)
   clear hK K
   replace hu6:=Hd hu6
   have hV6:=hV5.on hb6
   refine wpAnyH_ready (rs:=[4]) (by kernel_rfl) (by simp) ?_
   refine AllReadyH.cons rfl (fun K hK=>?_) AllReadyH.nil
   clear hS
   go_simp
   refine(cmp_call u5 u6 _ (hE.out.env.below hV6.below)).mono ?_
   rintro e w7 ⟨rfl,hb7⟩
   go_wp2_with fail
   refine hKo hK (hV6.on hb7) (fun hS=>?_)
   clear hK K
   have hV7:=hV6.on hb7
   generalize hr:cmpR u5.data.toList u6.data.toList=r at *
   replace hr:=Hd hr
   refine wpAnyH_take (i:=5) (v:=.int .i64 r) rfl (by kernel_rfl) (by kernel_rfl) (by kernel_rfl) (fun _ _ _ h=>h) (.inl ⟨by kernel_rfl,fun _ _=>by kernel_rfl⟩) hS ?_;simp only[List.getElem_toArray,List.getElem_cons_succ,List.getElem_cons_zero,Act.put,List.setIfInBounds_toArray,List.set_cons_zero,List.set_cons_succ]
   refine wpAnyH_done (by kernel_rfl) ?_ _
   go_wp2_with fail
   go_ret
   exact⟨ret_int (by rw[←hr.out];unfold cmpR;rw[hu5.out.1,hu6.out.1,hu5.out.2,hu6.out.2];rfl),hV7.below⟩
end Go.Proofs.YtcaeipdgbaligaaGreatDoor.val
