/- Texts DecPlus, DecLoad, DecBoth, DecBoth2, DecNW, DecOfInt, one behind the other. -/
import Derived.Test.YtcaeipdgbaligaaGreatDoorDecB
import Derived.Deep.MidRow
import Derived.Great.BuildSlice
import Derived.ShutString
set_option linter.unusedSimpArgs false
set_option linter.unusedVariables false
set_option maxRecDepth 100000
set_option maxHeartbeats 2000000
namespace Go.Proofs.YtcaeipdgbaligaaGreatDoor.dec
open Go.ChangeShapes Go.WideShapes Go.ChangeAt Go.RowKit kit
def nv(neg:Bool)(f:Nat→Nat):Array Value:=(Value.bool neg::(wv f).toList).toArray
theorem nv_size(neg:Bool)(f:Nat→Nat):(nv neg f).size=17:=by
 have:=wv_size f
 simp[nv];omega
theorem nv_zero(neg:Bool)(f:Nat→Nat):(nv neg f)[0]? = some (.bool neg):=by simp[nv]
theorem nv_get(neg:Bool)(f:Nat→Nat)(i:Nat)(h:i<16):(nv neg f)[1+i]? = some (.int .u64 (f i:Nat)):=by
 have:=wv_get f i h
 rw[Nat.add_comm]
 simpa[nv]using this
theorem nv_one(neg:Bool)(f:Nat→Nat):(nv neg f).all (·.oneCell')=true:=by
 have:=wv_one f
 simp only[nv,List.all_toArray,List.all_cons]
 rw[Bool.and_eq_true]
 exact⟨rfl,by rw[←Array.all_toList]at this;exact this⟩
theorem nv_put(neg:Bool)(f h:Nat→Nat):putW (nv neg f) 1 h 16=nv neg h:=by
 apply Array.ext_getElem?
 intro j
 rw[putW_get,nv_size]
 by_cases h0:j=0
 ·subst h0;rw[if_neg (by omega),nv_zero,nv_zero]
 ·by_cases hj:j<17
  ·obtain⟨i,rfl⟩:∃i,j=1+i:=⟨j-1,by omega⟩
   rw[if_pos (by omega),nv_get _ _ _ (by omega),show 1+i-1=i by omega]
  ·rw[if_neg (by omega),Array.getElem?_eq_none (by rw[nv_size];omega),Array.getElem?_eq_none (by rw[nv_size];omega)]
theorem nv_range{w:World}{b:Nat}{neg:Bool}{f:Nat→Nat}{t:TypeId}(h:Blk w b (nv neg f) t):w.rangeAt b 1 (wv f).toList:=by
 intro j v hv
 have hj:j<16:=by
  have:=(List.getElem?_eq_some_iff.1 hv).1
  rw[Array.length_toList,wv_size]at this;exact this
 have h2:=wv_get f j hj
 rw[Array.getElem?_toList,h2]at hv
 cases hv
 exact h.cell _ (nv_get _ _ _ hj)
theorem wv_len(f:Nat→Nat):(wv f).toList.length=16:=by rw[Array.length_toList,wv_size]
theorem nv_falses:nv false (fun _=>0)=#[.bool false,.int .u64 0,.int .u64 0,.int .u64 0,.int .u64 0,.int .u64 0,.int .u64 0,.int .u64 0,.int .u64 0,.int .u64 0,.int .u64 0,.int .u64 0,.int .u64 0,.int .u64 0,.int .u64 0,.int .u64 0,.int .u64 0]:=rfl
theorem Tryz.infoN:(Tryz.prog.info? 181).map (·.size)=some 17:=by kernel_rfl
structure PW(w W:World)(s t:Bool)(f g:Nat→Nat):Prop where
 keep:Keep [] w W
 b0:Blk W w.heap.size (nv s f) 181
 b1:Blk W (w.heap.size+1) (nv t g) 181
 b2:Blk W (w.heap.size+1+1) (nv false fun _=>0) 181
theorem PW.made(w:World)(s t:Bool)(f g:Nat→Nat):PW w (((w.alloc (.cells (nv s f) 181)).alloc (.cells (nv t g) 181)).alloc (.cells (nv false fun _=>0) 181)) s t f g:=by
 refine⟨(((Keep.refl _ _).alloc _).alloc _).alloc _,((Blk.new _ _ _).alloc _).alloc _,?_,?_⟩
 ·have:=(Blk.new (w.alloc (.cells (nv s f) 181)) (nv t g) 181).alloc (.cells (nv false fun _=>0) 181)
  rwa [World.size_alloc]at this
 ·have:=Blk.new ((w.alloc (.cells (nv s f) 181)).alloc (.cells (nv t g) 181)) (nv false fun _=>0) 181
  rwa [World.size_alloc,World.size_alloc]at this
theorem plus_same(s:Bool)(f g:Nat→Nat)(w:World)(hf:∀i,f i<1000000000)(hg:∀i,g i<1000000000):
 Calls Tryz.prog 137 #[.agg (nv s f),.agg (nv s g)] w fun e w'=>e=.returned (.agg (nv s (sumW f g)))∧Below w.heap.size w w':=by
 replace hf:=Hd hf
 replace hg:=Hd hg
 have hsm:(s==s)=true:=by cases s<;>rfl
 go_enter Tryz.func137,Tryz.ntmps137
 go_upto_region 1 with(fail)
 have hz:=nv_falses
 rw[←hz];clear hz
 have pw:=PW.made w s s f g
 generalize (((w.alloc (.cells (nv s f) 181)).alloc (.cells (nv s g) 181)).alloc (.cells (nv false fun _=>0) 181))=W at *
 have c0:W.cell? ⟨w.heap.size,0,none⟩=some (.bool s):=pw.b0.cell _ (nv_zero _ _)
 have c1:W.cell? ⟨w.heap.size+1,0,none⟩=some (.bool s):=pw.b1.cell _ (nv_zero _ _)
 replace pw:=Hd pw
 go_wp2_with (first|(with_reducible refine wpList_load_mid rfl 179 (.tmp 11) rfl (w.heap.size+1) 1 rfl _ _ (nv_range pw.out.b1) Tryz.underlying179 rfl (by rw[wv_len];exact Tryz.infoW) ?_))
 refine(add_any w.heap.size 1 (nv s f) 181 f g W pw.out.b0 (fun i hi=>nv_get s f i hi) hf.out hg.out).mono ?_
 rintro e w1 ⟨rfl,k1,b1⟩
 rw[nv_put]at b1
 have k1':Keep [] w w1:=pw.out.keep.trans k1 (by simp)
 have b2:Blk w1 (w.heap.size+1+1) (nv false fun _=>0) 181:=pw.out.b2.keep k1 (by simp only[List.mem_singleton];omega)
 replace k1:=Hd k1
 replace b1:=Hd b1
 go_wp2_with (first|(with_reducible refine wpList_load_row rfl 181 (.tmp 2) rfl (w.heap.size) rfl 181 _ (0,0) _ (Blk.eq b1.out) Tryz.underlying181 rfl (by rw[nv_size];exact Tryz.infoN) ?_)|(with_reducible refine wpList_store_row rfl 181 (.tmp 4) (.tmp 14) rfl (w.heap.size+1+1) _ rfl rfl 181 _ (Blk.eq b2) (by rw[nv_size];exact Tryz.infoN) (by rw[nv_size,nv_size]) (nv_one _ _) ?_))
 exact bodyPost_ret (v:=.agg (nv s (sumW f g))) (results_cell_row rfl _ _ (w.heap.size+1+1) 181 _ (0,0) _ rfl (Blk.setRow b2).eq Tryz.underlying181 rfl (by rw[nv_size];exact Tryz.infoN)) rfl
  ⟨rfl,(Keep.setRow k1' (by omega) _).below⟩
theorem plus_diff(s t:Bool)(f g:Nat→Nat)(w:World)(hf:∀i,f i<1000000000)(hg:∀i,g i<1000000000)(hst:(s==t)=false)(hc:¬cmpW f g 16<0):
 Calls Tryz.prog 137 #[.agg (nv s f),.agg (nv t g)] w fun e w'=>e=.returned (.agg (nv s (subW f g)))∧Below w.heap.size w w':=by
 replace hf:=Hd hf
 replace hg:=Hd hg
 go_enter Tryz.func137,Tryz.ntmps137
 go_upto_region 1 with(fail)
 have hz:=nv_falses
 rw[←hz];clear hz
 have pw:=PW.made w s t f g
 generalize (((w.alloc (.cells (nv s f) 181)).alloc (.cells (nv t g) 181)).alloc (.cells (nv false fun _=>0) 181))=W at *
 have c0:W.cell? ⟨w.heap.size,0,none⟩=some (.bool s):=pw.b0.cell _ (nv_zero _ _)
 have c1:W.cell? ⟨w.heap.size+1,0,none⟩=some (.bool t):=pw.b1.cell _ (nv_zero _ _)
 replace pw:=Hd pw
 go_wp2_with (first|(with_reducible refine wpList_load_mid rfl 179 (.tmp 15) rfl (w.heap.size) 1 rfl _ _ (nv_range pw.out.b0) Tryz.underlying179 rfl (by rw[wv_len];exact Tryz.infoW) ?_)|(with_reducible refine wpList_load_mid rfl 179 (.tmp 17) rfl (w.heap.size+1) 1 rfl _ _ (nv_range pw.out.b1) Tryz.underlying179 rfl (by rw[wv_len];exact Tryz.infoW) ?_))
 refine(compare_any f g W).mono ?_
 rintro e w1 ⟨rfl,hb1⟩
 have k1:Keep [] w w1:=pw.out.keep.trans (Keep.ofBelow hb1) (by simp)
 have b0:Blk w1 w.heap.size (nv s f) 181:=pw.out.b0.keep (Keep.ofBelow hb1) (by simp)
 have b1:Blk w1 (w.heap.size+1) (nv t g) 181:=pw.out.b1.keep (Keep.ofBelow hb1) (by simp)
 have b2:Blk w1 (w.heap.size+1+1) (nv false fun _=>0) 181:=pw.out.b2.keep (Keep.ofBelow hb1) (by simp)
 clear c0 c1 hb1
 replace k1:=Hd k1
 replace b0:=Hd b0
 replace b1:=Hd b1
 replace b2:=Hd b2
 go_wp2_with (first|(with_reducible refine wpList_load_mid rfl 179 (.tmp 24) rfl (w.heap.size+1) 1 rfl _ _ (nv_range b1.out) Tryz.underlying179 rfl (by rw[wv_len];exact Tryz.infoW) ?_))
 refine(sub_any w.heap.size 1 (nv s f) 181 f g _ (b0.out) (fun i hi=>nv_get s f i hi) hf.out hg.out).mono ?_
 rintro e w2 ⟨rfl,k2,d0⟩
 rw[nv_put]at d0
 have k2':Keep [] w w2:=(Keep.trans k1.out k2 (by simp))
 have d2:Blk w2 (w.heap.size+1+1) (nv false fun _=>0) 181:=Blk.keep b2.out k2 (by simp only[List.mem_singleton];omega)
 replace k2:=Hd k2
 replace d0:=Hd d0
 go_wp2_with (first|(with_reducible refine wpList_load_row rfl 181 (.tmp 2) rfl (w.heap.size) rfl 181 _ (0,0) _ (Blk.eq d0.out) Tryz.underlying181 rfl (by rw[nv_size];exact Tryz.infoN) ?_)|(with_reducible refine wpList_store_row rfl 181 (.tmp 4) (.tmp 27) rfl (w.heap.size+1+1) _ rfl rfl 181 _ (Blk.eq d2) (by rw[nv_size];exact Tryz.infoN) (by rw[nv_size,nv_size]) (nv_one _ _) ?_))
 exact bodyPost_ret (v:=.agg (nv s (subW f g))) (results_cell_row rfl _ _ (w.heap.size+1+1) 181 _ (0,0) _ rfl (Blk.setRow d2).eq Tryz.underlying181 rfl (by rw[nv_size];exact Tryz.infoN)) rfl
  ⟨rfl,(Keep.setRow k2' (by omega) _).below⟩
theorem plus_swap(s t:Bool)(f g:Nat→Nat)(w:World)(hf:∀i,f i<1000000000)(hg:∀i,g i<1000000000)(hst:(s==t)=false)(hc:cmpW f g 16<0):
 Calls Tryz.prog 137 #[.agg (nv s f),.agg (nv t g)] w fun e w'=>e=.returned (.agg (nv t (subW g f)))∧Below w.heap.size w w':=by
 replace hf:=Hd hf
 replace hg:=Hd hg
 go_enter Tryz.func137,Tryz.ntmps137
 go_upto_region 1 with(fail)
 have hz:=nv_falses
 rw[←hz];clear hz
 have pw:=PW.made w s t f g
 generalize (((w.alloc (.cells (nv s f) 181)).alloc (.cells (nv t g) 181)).alloc (.cells (nv false fun _=>0) 181))=W at *
 have c0:W.cell? ⟨w.heap.size,0,none⟩=some (.bool s):=pw.b0.cell _ (nv_zero _ _)
 have c1:W.cell? ⟨w.heap.size+1,0,none⟩=some (.bool t):=pw.b1.cell _ (nv_zero _ _)
 replace pw:=Hd pw
 go_wp2_with (first|(with_reducible refine wpList_load_mid rfl 179 (.tmp 15) rfl (w.heap.size) 1 rfl _ _ (nv_range pw.out.b0) Tryz.underlying179 rfl (by rw[wv_len];exact Tryz.infoW) ?_)|(with_reducible refine wpList_load_mid rfl 179 (.tmp 17) rfl (w.heap.size+1) 1 rfl _ _ (nv_range pw.out.b1) Tryz.underlying179 rfl (by rw[wv_len];exact Tryz.infoW) ?_))
 refine(compare_any f g W).mono ?_
 rintro e w1 ⟨rfl,hb1⟩
 have k1:Keep [] w w1:=pw.out.keep.trans (Keep.ofBelow hb1) (by simp)
 have b0:Blk w1 w.heap.size (nv s f) 181:=pw.out.b0.keep (Keep.ofBelow hb1) (by simp)
 have b1:Blk w1 (w.heap.size+1) (nv t g) 181:=pw.out.b1.keep (Keep.ofBelow hb1) (by simp)
 have b2:Blk w1 (w.heap.size+1+1) (nv false fun _=>0) 181:=pw.out.b2.keep (Keep.ofBelow hb1) (by simp)
 clear c0 c1 hb1
 replace k1:=Hd k1
 replace b0:=Hd b0
 replace b1:=Hd b1
 replace b2:=Hd b2
 have e1:Blk (w1.setRow w.heap.size (nv t g)) (w.heap.size+1) (nv t g) 181:=b1.out.setRow_other (by omega)
 have g0:Blk ((w1.setRow w.heap.size (nv t g)).setRow (w.heap.size+1) (nv s f)) w.heap.size (nv t g) 181:=(b0.out.setRow).setRow_other (by omega)
 have g1:Blk ((w1.setRow w.heap.size (nv t g)).setRow (w.heap.size+1) (nv s f)) (w.heap.size+1) (nv s f) 181:=e1.setRow
 have g2:Blk ((w1.setRow w.heap.size (nv t g)).setRow (w.heap.size+1) (nv s f)) (w.heap.size+1+1) (nv false fun _=>0) 181:=(b2.out.setRow_other (by omega)).setRow_other (by omega)
 have gk:Keep [] w ((w1.setRow w.heap.size (nv t g)).setRow (w.heap.size+1) (nv s f)):=(k1.out.setRow (by omega) _).setRow (by omega) _
 go_wp2_with (first|(with_reducible refine wpList_load_row rfl 181 (.tmp 3) rfl (w.heap.size+1) rfl 181 _ (0,0) _ (Blk.eq b1.out) Tryz.underlying181 rfl (by rw[nv_size];exact Tryz.infoN) ?_)|(with_reducible refine wpList_load_row rfl 181 (.tmp 2) rfl (w.heap.size) rfl 181 _ (0,0) _ (Blk.eq b0.out) Tryz.underlying181 rfl (by rw[nv_size];exact Tryz.infoN) ?_)|(with_reducible refine wpList_store_row rfl 181 (.tmp 2) (.tmp 21) rfl (w.heap.size) _ rfl rfl 181 _ (Blk.eq b0.out) (by rw[nv_size];exact Tryz.infoN) (by rw[nv_size,nv_size]) (nv_one _ _) ?_)|(with_reducible refine wpList_store_row rfl 181 (.tmp 3) (.tmp 22) rfl (w.heap.size+1) _ rfl rfl 181 _ (Blk.eq e1) (by rw[nv_size];exact Tryz.infoN) (by rw[nv_size,nv_size]) (nv_one _ _) ?_)|(with_reducible refine wpList_load_mid rfl 179 (.tmp 24) rfl (w.heap.size+1) 1 rfl _ _ (nv_range g1) Tryz.underlying179 rfl (by rw[wv_len];exact Tryz.infoW) ?_))
 refine(sub_any w.heap.size 1 (nv t g) 181 g f _ (g0) (fun i hi=>nv_get t g i hi) hg.out hf.out).mono ?_
 rintro e w2 ⟨rfl,k2,d0⟩
 rw[nv_put]at d0
 have k2':Keep [] w w2:=(Keep.trans gk k2 (by simp))
 have d2:Blk w2 (w.heap.size+1+1) (nv false fun _=>0) 181:=Blk.keep g2 k2 (by simp only[List.mem_singleton];omega)
 replace k2:=Hd k2
 replace d0:=Hd d0
 go_wp2_with (first|(with_reducible refine wpList_load_row rfl 181 (.tmp 2) rfl (w.heap.size) rfl 181 _ (0,0) _ (Blk.eq d0.out) Tryz.underlying181 rfl (by rw[nv_size];exact Tryz.infoN) ?_)|(with_reducible refine wpList_store_row rfl 181 (.tmp 4) (.tmp 27) rfl (w.heap.size+1+1) _ rfl rfl 181 _ (Blk.eq d2) (by rw[nv_size];exact Tryz.infoN) (by rw[nv_size,nv_size]) (nv_one _ _) ?_))
 exact bodyPost_ret (v:=.agg (nv t (subW g f))) (results_cell_row rfl _ _ (w.heap.size+1+1) 181 _ (0,0) _ rfl (Blk.setRow d2).eq Tryz.underlying181 rfl (by rw[nv_size];exact Tryz.infoN)) rfl
  ⟨rfl,(Keep.setRow k2' (by omega) _).below⟩
def plusP(s:Bool)(N:Nat)(t:Bool)(M:Nat):Bool×Nat:=if s=t then(s,N+M) else if N<M then(t,M-N) else(s,N-M)
theorem plus_any(s t:Bool)(N M:Nat)(w:World)(hN:N<B9 ^ 16)(hM:M<B9 ^ 16):
 Calls Tryz.prog 137 #[.agg (nv s (wd N)),.agg (nv t (wd M))] w fun e w'=>e=.returned (.agg (nv (plusP s N t M).1 (wd (plusP s N t M).2)))∧Below w.heap.size w w':=by
 have nvc:∀b f g,(∀i,f i=g i)→nv b f=nv b g:=fun b f g h=>by rw[funext h]
 unfold plusP
 by_cases hst:s=t
 ·subst hst
  rw[if_pos rfl,←nvc s (sumW (wd N) (wd M)) (wd (N+M)) (sumW_wd N M)]
  exact plus_same s (wd N) (wd M) w (wd_lt N) (wd_lt M)
 ·have hb:(s==t)=false:=by simpa using hst
  have hcm:=cmpW_wd N M 16
  rw[Nat.mod_eq_of_lt hN,Nat.mod_eq_of_lt hM]at hcm
  unfold sgn at hcm
  rw[if_neg hst]
  by_cases hl:N<M
  ·rw[if_pos hl]at hcm ⊢
   rw[←nvc t (subW (wd M) (wd N)) (wd (M-N)) (fun k=>subW_wd M N k (by omega))]
   exact plus_swap s t (wd N) (wd M) w (wd_lt N) (wd_lt M) hb (by omega)
  ·rw[if_neg hl]at hcm ⊢
   rw[←nvc s (subW (wd N) (wd M)) (wd (N-M)) (fun k=>subW_wd N M k (by omega))]
   exact plus_diff s t (wd N) (wd M) w (wd_lt N) (wd_lt M) hb (by rw[hcm];split<;>omega)
theorem signed_not(t:Bool)(M:Nat):signed (!t) M=- signed t M:=by cases t<;>simp[signed]
theorem plusP_signed(s:Bool)(N:Nat)(t:Bool)(M:Nat):signed (plusP s N t M).1 (plusP s N t M).2=signed s N+signed t M:=by
 unfold plusP signed
 cases s<;>cases t<;>simp
 ·split<;>simp<;>omega
 ·split<;>simp<;>omega
 ·omega
def numV(z:Int):Value:=.agg (nv (decide (z<0)) (wd z.natAbs))
theorem canon_shape(z:Int):canon z=(if decide (z<0) then[45] else[])++(orZero (digs (z.natAbs / 10 ^ 20))++46::orZero (frac 20 z.natAbs)):=by
 unfold canon;rw[fmt_eq]
theorem load_val(z:Int):val (orZero (digs (z.natAbs / 10 ^ 20))++orZero (frac 20 z.natAbs)++List.replicate (20-(orZero (frac 20 z.natAbs)).length) 48)=z.natAbs:=by
 rw[val_append,val_replicate,List.length_replicate,Nat.add_zero]
 exact(amount z).1
theorem zerosN:(Tryz.prog.info? 181).map (·.size)=some (#[.bool false,.int .u64 0,.int .u64 0,.int .u64 0,.int .u64 0,.int .u64 0,.int .u64 0,.int .u64 0,.int .u64 0,.int .u64 0,.int .u64 0,.int .u64 0,.int .u64 0,.int .u64 0,.int .u64 0,.int .u64 0,.int .u64 0]:Array Value).size:=Tryz.infoN
theorem zerosS:(nv false fun _=>0).size=(#[.bool false,.int .u64 0,.int .u64 0,.int .u64 0,.int .u64 0,.int .u64 0,.int .u64 0,.int .u64 0,.int .u64 0,.int .u64 0,.int .u64 0,.int .u64 0,.int .u64 0,.int .u64 0,.int .u64 0,.int .u64 0,.int .u64 0]:Array Value).size:=rfl
theorem zerosC:(#[.bool false,.int .u64 0,.int .u64 0,.int .u64 0,.int .u64 0,.int .u64 0,.int .u64 0,.int .u64 0,.int .u64 0,.int .u64 0,.int .u64 0,.int .u64 0,.int .u64 0,.int .u64 0,.int .u64 0,.int .u64 0,.int .u64 0]:Array Value).all (·.oneCell')=true:=by rw[←nv_falses];exact nv_one _ _
theorem load_no(s:ByteArray)(w:World)(hE:Env w)(hc:chk s.data.toList=false):
 Calls Tryz.prog 154 #[.string s] w fun e w'=>e=.returned (.tuple #[.agg (nv false fun _=>0),.bool false])∧Below w.heap.size w w':=by
 have hch:=fun w hE=>chk_any s w hE
 rw[hc]at hch
 replace hch:=Hd hch
 replace hE:=Hd hE
 go_enter Tryz.func154,Tryz.ntmps154
 go_wp2_with fail
 rw[←nv_falses]
 have k0:Below w.heap.size w (w.alloc (.cells (nv false fun _=>0) 181)):=(Below.refl _ _).alloc (Nat.le_refl _) _
 have b0:Blk (w.alloc (.cells (nv false fun _=>0) 181)) w.heap.size (nv false fun _=>0) 181:=Blk.new _ _ _
 generalize w.alloc (.cells (nv false fun _=>0) 181)=W at *
 have hEW:=hE.out.below k0
 refine(hch.out W hEW).mono ?_
 rintro e w1 ⟨rfl,hb1⟩
 have k1:Keep [] w w1:=Keep.ofBelow (k0.trans (hb1.mono k0.size))
 have b1:Blk w1 w.heap.size (nv false fun _=>0) 181:=b0.keep (Keep.ofBelow hb1) (by simp)
 have hE1:=hEW.below hb1
 clear k0 b0 hb1 hEW hE hch
 replace k1:=Hd k1
 replace b1:=Hd b1
 replace hE1:=Hd hE1
 go_wp2_with (first|(with_reducible refine wpList_store_row rfl 181 (.tmp 2) (.tmp 11) rfl (w.heap.size) #[.bool false,.int .u64 0,.int .u64 0,.int .u64 0,.int .u64 0,.int .u64 0,.int .u64 0,.int .u64 0,.int .u64 0,.int .u64 0,.int .u64 0,.int .u64 0,.int .u64 0,.int .u64 0,.int .u64 0,.int .u64 0,.int .u64 0] rfl rfl 181 _ (Blk.eq b1.out) zerosN zerosS zerosC ?_))
 exact bodyPost_ret (v:=.tuple #[.agg #[.bool false,.int .u64 0,.int .u64 0,.int .u64 0,.int .u64 0,.int .u64 0,.int .u64 0,.int .u64 0,.int .u64 0,.int .u64 0,.int .u64 0,.int .u64 0,.int .u64 0,.int .u64 0,.int .u64 0,.int .u64 0,.int .u64 0],.bool false]) (res2 rfl _ _ w.heap.size 181 #[.bool false,.int .u64 0,.int .u64 0,.int .u64 0,.int .u64 0,.int .u64 0,.int .u64 0,.int .u64 0,.int .u64 0,.int .u64 0,.int .u64 0,.int .u64 0,.int .u64 0,.int .u64 0,.int .u64 0,.int .u64 0,.int .u64 0] (0,0) _ _ rfl rfl (Blk.setRow b1.out).eq Tryz.underlying181 rfl Tryz.infoN) rfl
  ⟨rfl,(Keep.setRow k1.out (by omega) _).below⟩
theorem built_num(b:Bool)(f:Nat→Nat):Tryz.prog.built 181 [(0,.bool b),(1,.agg (wv f))]=some (nv b f):=by kernel_rfl
theorem load_neg(s:ByteArray)(Wl Pl:List UInt8)(w:World)(hE:Env w)(hs:s.data.toList=45::(Wl++46::Pl))(hc:chk s.data.toList=true)(hW:allD Wl=true)(hP:allD Pl=true)(hP20:Pl.length≤20)(hW40:Wl.length≤40):
 Calls Tryz.prog 154 #[.string s] w fun e w'=>e=.returned (.tuple #[.agg (nv true (wd (val (Wl++Pl++List.replicate (20-Pl.length) 48)))),.bool true])∧Below w.heap.size w w':=by
 have hch:=fun w hE=>chk_any s w hE
 rw[hc]at hch
 replace hch:=Hd hch
 replace hE:=Hd hE
 have hlen:s.size=Wl.length+Pl.length+2:=by
  have:s.size=s.data.toList.length:=rfl
  rw[this,hs];simp;omega
 have hpos:0<s.size:=by omega
 have hbyte:(((s[0]'hpos).toNat:Int)==45)=true:=by
  have:s[0]'hpos=45:=by
   have h2:s.data.toList[0]? = some 45:=by rw[hs];rfl
   have h3:=(List.getElem?_eq_some_iff.1 h2).2
   exact h3
  rw[this];rfl
 replace hs:=Hd hs
 replace hlen:=Hd hlen
 go_enter Tryz.func154,Tryz.ntmps154
 go_wp2_with fail
 rw[←nv_falses]
 have k0:Below w.heap.size w (w.alloc (.cells (nv false fun _=>0) 181)):=(Below.refl _ _).alloc (Nat.le_refl _) _
 have b0:Blk (w.alloc (.cells (nv false fun _=>0) 181)) w.heap.size (nv false fun _=>0) 181:=Blk.new _ _ _
 generalize w.alloc (.cells (nv false fun _=>0) 181)=W at *
 have hEW:=hE.out.below k0
 refine(hch.out W hEW).mono ?_
 rintro e w1 ⟨rfl,hb1⟩
 have k1:Keep [] w w1:=Keep.ofBelow (k0.trans (hb1.mono k0.size))
 have b1:Blk w1 w.heap.size (nv false fun _=>0) 181:=b0.keep (Keep.ofBelow hb1) (by simp)
 have hE1:=hEW.below hb1
 clear k0 b0 hb1 hEW hE hch
 replace k1:=Hd k1
 replace b1:=Hd b1
 replace hE1:=Hd hE1
 have hsz1:s.size≤100:=by have:=hlen.out;omega
 go_wp2_with fail
 obtain⟨m,hm⟩:=hE1.out.max
 have hlt:((s.extract 1 s.size).data.toList)=Wl++46::Pl:=by
  rw[Lib.extract_data,List.drop_one,List.take_of_length_le,hs.out]
  ·rfl
  ·show s.data.toList.tail.length≤s.size-1
   rw[List.length_tail];exact Nat.le_refl _
 have hlz:(s.extract 1 s.size).size≤100:=by
  have:(s.extract 1 s.size).size=(s.extract 1 s.size).data.toList.length:=rfl
  rw[this,hlt];simp;omega
 generalize s.extract 1 s.size=t at *
 refine(Tryz.strings_Cut t ⟨#[46]⟩ m _ (by omega) hm).mono ?_
 rintro e w2 ⟨rfl,n1,rfl⟩
 rw[hlt,show(ByteArray.mk #[46]).data.toList=[46] from rfl,cut_dot Wl Pl hW]
 have hr:Lib.repeatL [48] (20-Pl.length)=List.replicate (20-Pl.length) 48:=repeatL_48 _
 go_wp2_with fail
 rw[show((20:Int)-(Pl.length:Int))=((20-Pl.length:Nat):Int) by omega]
 refine(Tryz.strings_Repeat ⟨#[48]⟩ (20-Pl.length) _ (by omega) (by have:(ByteArray.mk #[48]).size=1:=rfl;rw[this];omega)).mono ?_
 rintro e w3 ⟨rfl,hb3⟩
 rw[show(ByteArray.mk #[48]).data.toList=[48] from rfl,hr]
 replace hb3:=Hd hb3
 obtain⟨rp,hrp⟩:∃rp:ByteArray,(⟨(List.replicate (20-Pl.length) (48:UInt8)).toArray⟩:ByteArray)=rp:=⟨_,rfl⟩
 have hrl:rp.data.toList=List.replicate (20-Pl.length) 48:=by rw[←hrp]
 have hrs:rp.size≤20:=by
  have:rp.size=rp.data.toList.length:=rfl
  rw[this,hrl];simp
 rw[hrp]
 replace hrl:=Hd hrl
 clear hrp hr
 have hsm:(((⟨Wl.toArray⟩:ByteArray)++⟨Pl.toArray⟩).size:Int)+(rp.size:Int)≤9223372036854775807:=by
  rw[two_size];omega
 go_wp2_with fail
 obtain⟨tb,htb⟩:∃tb:ByteArray,(((⟨Wl.toArray⟩:ByteArray)++⟨Pl.toArray⟩)++rp)=tb:=⟨_,rfl⟩
 have htl:tb.data.toList=Wl++Pl++List.replicate (20-Pl.length) (48:UInt8):=by rw[←htb,←hrl.out];simp
 have hts:tb.size≤144:=by
  have:tb.size=tb.data.toList.length:=rfl
  rw[this,htl];simp;omega
 have htd:allD tb.data.toList=true:=by rw[htl,allD_append,allD_append,hW,hP,allD_replicate];rfl
 rw[htb]
 clear hsm htb
 refine(wordsOf_any tb _ htd hts).mono ?_
 rintro e w4 ⟨rfl,hb4⟩
 rw[htl]
 clear htl htd hts
 generalize hV:val (Wl++Pl++List.replicate (20-Pl.length) 48)=V
 have k4:Below w1.heap.size w1 w4:=(Below_drewN _ (Below.refl _ _)).trans (hb3.out.trans (hb4.mono hb3.out.size))
 have kk:Keep [] w w4:=k1.out.trans (Keep.ofBelow k4) (by simp)
 have b4:Blk w4 w.heap.size (nv false fun _=>0) 181:=b1.out.keep (Keep.ofBelow k4) (by simp)
 dsimp only
 rename_i K ha
 refine ha _ _ ?_
 with_reducible refine wpList_buildTo rfl 181 #[(0,.tmp 24),(1,.tmp 33)] rfl (some 34) rfl (nv true (wd V)) ?_ ?_
 ·simpa[Act.eval]using built_num true (wd V)
 with_reducible refine wpList_store_rowTo rfl 181 (.tmp 2) (.tmp 34) rfl rfl w.heap.size (nv true (wd V)) rfl rfl 181 _ (Blk.eq b4) (by rw[nv_size];exact Tryz.infoN) (by rw[nv_size,nv_size]) (nv_one _ _) ?_
 go_wp2_with fail
 exact bodyPost_ret (v:=.tuple #[.agg (nv true (wd V)),.bool true]) (res2 rfl _ _ w.heap.size 181 _ (0,0) _ _ rfl rfl (Blk.setRow b4).eq Tryz.underlying181 rfl (by rw[nv_size];exact Tryz.infoN)) rfl
  ⟨by rw[hV],(Keep.setRow kk (by omega) _).below⟩
theorem load_pos(s:ByteArray)(Wl Pl:List UInt8)(w:World)(hE:Env w)(hs:s.data.toList=Wl++46::Pl)(hc:chk s.data.toList=true)(hW:allD Wl=true)(hP:allD Pl=true)(hP20:Pl.length≤20)(hW40:Wl.length≤40):
 Calls Tryz.prog 154 #[.string s] w fun e w'=>e=.returned (.tuple #[.agg (nv false (wd (val (Wl++Pl++List.replicate (20-Pl.length) 48)))),.bool true])∧Below w.heap.size w w':=by
 have hch:=fun w hE=>chk_any s w hE
 rw[hc]at hch
 replace hch:=Hd hch
 replace hE:=Hd hE
 have hlen:s.size=Wl.length+Pl.length+1:=by
  have:s.size=s.data.toList.length:=rfl
  rw[this,hs];simp;omega
 have hpos:0<s.size:=by omega
 have hbyte:(((s[0]'hpos).toNat:Int)==45)=false:=by
  have h1:s[0]'hpos≠45:=by
   obtain⟨c,hc0,hc1⟩:∃c,s.data.toList[0]? = some c∧c≠45:=by
    rw[hs]
    cases Wl with
    |nil=>exact⟨46,rfl,by decide⟩
    |cons c r=>
     refine⟨c,rfl,fun h=>?_⟩
     rw[allD_cons,Bool.and_eq_true]at hW
     rw[h]at hW
     exact absurd hW.1 (by decide)
   have h3:s.data.toList[0]? = some s[0]:=by
    rw[List.getElem?_eq_getElem (by rw[hs];simp;omega)];rfl
   rw[h3]at hc0
   cases hc0;exact hc1
  have h2:s[0].toNat≠45:=fun h=>h1 (UInt8.toNat_inj.1 h)
  rw[beq_eq_false_iff_ne];omega
 replace hs:=Hd hs
 replace hlen:=Hd hlen
 go_enter Tryz.func154,Tryz.ntmps154
 go_wp2_with fail
 rw[←nv_falses]
 have k0:Below w.heap.size w (w.alloc (.cells (nv false fun _=>0) 181)):=(Below.refl _ _).alloc (Nat.le_refl _) _
 have b0:Blk (w.alloc (.cells (nv false fun _=>0) 181)) w.heap.size (nv false fun _=>0) 181:=Blk.new _ _ _
 generalize w.alloc (.cells (nv false fun _=>0) 181)=W at *
 have hEW:=hE.out.below k0
 refine(hch.out W hEW).mono ?_
 rintro e w1 ⟨rfl,hb1⟩
 have k1:Keep [] w w1:=Keep.ofBelow (k0.trans (hb1.mono k0.size))
 have b1:Blk w1 w.heap.size (nv false fun _=>0) 181:=b0.keep (Keep.ofBelow hb1) (by simp)
 have hE1:=hEW.below hb1
 clear k0 b0 hb1 hEW hE hch
 replace k1:=Hd k1
 replace b1:=Hd b1
 replace hE1:=Hd hE1
 have hsz1:s.size≤100:=by have:=hlen.out;omega
 go_wp2_with fail
 obtain⟨m,hm⟩:=hE1.out.max
 refine(Tryz.strings_Cut s ⟨#[46]⟩ m _ (by omega) hm).mono ?_
 rintro e w2 ⟨rfl,n1,rfl⟩
 rw[hs.out,show(ByteArray.mk #[46]).data.toList=[46] from rfl,cut_dot Wl Pl hW]
 have hr:Lib.repeatL [48] (20-Pl.length)=List.replicate (20-Pl.length) 48:=repeatL_48 _
 go_wp2_with fail
 rw[show((20:Int)-(Pl.length:Int))=((20-Pl.length:Nat):Int) by omega]
 refine(Tryz.strings_Repeat ⟨#[48]⟩ (20-Pl.length) _ (by omega) (by have:(ByteArray.mk #[48]).size=1:=rfl;rw[this];omega)).mono ?_
 rintro e w3 ⟨rfl,hb3⟩
 rw[show(ByteArray.mk #[48]).data.toList=[48] from rfl,hr]
 replace hb3:=Hd hb3
 obtain⟨rp,hrp⟩:∃rp:ByteArray,(⟨(List.replicate (20-Pl.length) (48:UInt8)).toArray⟩:ByteArray)=rp:=⟨_,rfl⟩
 have hrl:rp.data.toList=List.replicate (20-Pl.length) 48:=by rw[←hrp]
 have hrs:rp.size≤20:=by
  have:rp.size=rp.data.toList.length:=rfl
  rw[this,hrl];simp
 rw[hrp]
 replace hrl:=Hd hrl
 clear hrp hr
 have hsm:(((⟨Wl.toArray⟩:ByteArray)++⟨Pl.toArray⟩).size:Int)+(rp.size:Int)≤9223372036854775807:=by
  rw[two_size];omega
 go_wp2_with fail
 obtain⟨tb,htb⟩:∃tb:ByteArray,(((⟨Wl.toArray⟩:ByteArray)++⟨Pl.toArray⟩)++rp)=tb:=⟨_,rfl⟩
 have htl:tb.data.toList=Wl++Pl++List.replicate (20-Pl.length) (48:UInt8):=by rw[←htb,←hrl.out];simp
 have hts:tb.size≤144:=by
  have:tb.size=tb.data.toList.length:=rfl
  rw[this,htl];simp;omega
 have htd:allD tb.data.toList=true:=by rw[htl,allD_append,allD_append,hW,hP,allD_replicate];rfl
 rw[htb]
 clear hsm htb
 refine(wordsOf_any tb _ htd hts).mono ?_
 rintro e w4 ⟨rfl,hb4⟩
 rw[htl]
 clear htl htd hts
 generalize hV:val (Wl++Pl++List.replicate (20-Pl.length) 48)=V
 have k4:Below w1.heap.size w1 w4:=(Below_drewN _ (Below.refl _ _)).trans (hb3.out.trans (hb4.mono hb3.out.size))
 have kk:Keep [] w w4:=k1.out.trans (Keep.ofBelow k4) (by simp)
 have b4:Blk w4 w.heap.size (nv false fun _=>0) 181:=b1.out.keep (Keep.ofBelow k4) (by simp)
 dsimp only
 rename_i K ha
 refine ha _ _ ?_
 with_reducible refine wpList_buildTo rfl 181 #[(0,.tmp 24),(1,.tmp 33)] rfl (some 34) rfl (nv false (wd V)) ?_ ?_
 ·simpa[Act.eval]using built_num false (wd V)
 with_reducible refine wpList_store_rowTo rfl 181 (.tmp 2) (.tmp 34) rfl rfl w.heap.size (nv false (wd V)) rfl rfl 181 _ (Blk.eq b4) (by rw[nv_size];exact Tryz.infoN) (by rw[nv_size,nv_size]) (nv_one _ _) ?_
 go_wp2_with fail
 exact bodyPost_ret (v:=.tuple #[.agg (nv false (wd V)),.bool true]) (res2 rfl _ _ w.heap.size 181 _ (0,0) _ _ rfl rfl (Blk.setRow b4).eq Tryz.underlying181 rfl (by rw[nv_size];exact Tryz.infoN)) rfl
  ⟨by rw[hV],(Keep.setRow kk (by omega) _).below⟩
def zof(l:List UInt8):Int:=if chk l then nval l else 0
theorem zof_canon(z:Int)(hz:small z):zof (canon z)=z:=by unfold zof;rw[chk_canon z hz,if_pos rfl,nval_canon]
theorem zof_small(l:List UInt8):small (zof l):=by
 unfold zof
 split
 ·rename_i h
  obtain⟨z,hz,rfl⟩:=(chk_iff l).1 h
  rw[nval_canon];exact hz
 ·show(0:Int).natAbs<top
  unfold top;exact Nat.pow_pos (by decide)
def num(z:Int):Array Value:=nv (decide (z<0)) (wd z.natAbs)
theorem wd_zero:wd 0=fun _=>0:=by funext k;simp[wd]
theorem num_zero:num 0=nv false fun _=>0:=by unfold num;rw[←wd_zero];rfl
theorem top_lt:top≤B9 ^ 16:=by unfold top B9;decide
theorem small_lt{z:Int}(h:small z):z.natAbs<B9 ^ 16:=Nat.lt_of_lt_of_le h top_lt
theorem whole_len(z:Int)(hz:small z):(orZero (digs (z.natAbs / 10 ^ 20))).length≤40:=by
 have h:(digs (z.natAbs / 10 ^ 20)).length≤40:=by
  rw[digs_lt,Nat.div_lt_iff_lt_mul (Nat.pow_pos (by decide)),←Nat.pow_add];exact hz
 unfold orZero;split
 ·simp
 ·exact h
theorem load_any(s:ByteArray)(w:World)(hE:Env w):
 Calls Tryz.prog 154 #[.string s] w fun e w'=>e=.returned (.tuple #[.agg (num (zof s.data.toList)),.bool (chk s.data.toList)])∧Below w.heap.size w w':=by
 cases hc:chk s.data.toList
 ·unfold zof;rw[hc,if_neg (by decide),num_zero]
  exact load_no s w hE hc
 ·obtain⟨z,hz,hl⟩:=(chk_iff _).1 hc
  have hv:=load_val z
  have hw:=orZero_allD (digs_allD (z.natAbs / 10 ^ 20))
  have hp:=orZero_allD (frac_allD 20 z.natAbs)
  have hlw:=whole_len z hz
  have hlp:=(amount z).2
  rw[show zof s.data.toList=z by rw[hl,zof_canon z hz]]
  have hsh:=canon_shape z
  unfold num
  generalize orZero (digs (z.natAbs / 10 ^ 20))=Wl at *
  generalize orZero (frac 20 z.natAbs)=Pl at *
  rw[←hl]at hsh
  cases hn:decide (z<0)
  ·rw[hn]at hsh
   rw[←hv]
   exact load_pos s Wl Pl w hE hsh hc hw hp hlp hlw
  ·rw[hn]at hsh
   rw[←hv]
   exact load_neg s Wl Pl w hE hsh hc hw hp hlp hlw
theorem res3{P:Program}{fn:Func}{p q u:Tmp}{ty ty':TypeId}(h:fn.results=#[.cell p ty,.cell q ty',.tmp u])(tmps:Array Value)(w:World)(g g':Nat)(t t':TypeId)(cs cs':Array Value)(fr fr':Nat×Nat)(d d':TypeDesc)(v:Value)(hv:tmps.getD u undef=v)
 (hp:tmps.getD p undef=.pointer (some ⟨g,0,none⟩))(hg:w.heap[g]? = some (.cells cs t fr))
 (hq:tmps.getD q undef=.pointer (some ⟨g',0,none⟩))(hg':w.heap[g']? = some (.cells cs' t' fr'))
 (hu:P.underlying ty=some d)(hd:(match d with|.struct _|.array _ _=>true|_=>false)=true)(hi:(P.info? ty).map (·.size)=some cs.size)
 (hu':P.underlying ty'=some d')(hd':(match d' with|.struct _|.array _ _=>true|_=>false)=true)(hi':(P.info? ty').map (·.size)=some cs'.size):
 (results fn tmps).run P w=.ok (.tuple #[.agg cs,.agg cs',v]) w:=by
 subst hv
 have e1:=run_loadVar_row (P:=P) w g t ty cs fr d hg hu hd hi
 have e2:=run_loadVar_row (P:=P) w g' t' ty' cs' fr' d' hg' hu' hd' hi'
 rw[Array.getD_eq_getD_getElem?]at hp hq
 simp only[results,h]
 simp[Sem.run_bind,Result.andThen,hp,hq,asAddr,e1,e2]
theorem yields_row{P:Program}{ops:Array Oper}{S:World→Prop}{op:Oper}{a:Act}(hw:Region.wanted op (yielded ops a.tmps)=true)(ty:TypeId)(x:Operand)(ho:op.op=.load ty x)
 (b:Nat)(cs:Array Value)(d:TypeDesc)(hx:a.eval x=.pointer (some ⟨b,0,none⟩))(hS:∀w,S w→w.heap[b]? = some (.cells cs ty (0,0)))
 (hu:P.underlying ty=some d)(hd:(match d with|.struct _|.array _ _=>true|_=>false)=true)(hi:(P.info? ty).map (·.size)=some cs.size):YieldsIf P ops S op (.agg cs) a:=
 .inl ⟨hw,fun w hw'=>by
  unfold execOp
  simp only[ho,hx,Instr.loadAt,Instr.sureAddr,Sem.run_bind,Sem.run_pure,Result.andThen_ok,run_loadVar_row w b ty ty cs (0,0) d (hS w hw') hu hd hi]⟩
theorem zerosTo(s:Bool)(f:Nat→Nat):(#[.bool false,.int .u64 0,.int .u64 0,.int .u64 0,.int .u64 0,.int .u64 0,.int .u64 0,.int .u64 0,.int .u64 0,.int .u64 0,.int .u64 0,.int .u64 0,.int .u64 0,.int .u64 0,.int .u64 0,.int .u64 0,.int .u64 0]:Array Value).size=(nv s f).size:=by rw[nv_size];rfl
theorem both_any(a b:ByteArray)(w:World)(hE:Env w):
 Calls Tryz.prog 136 #[.string a,.string b] w fun e w'=>e=.returned (.tuple #[.agg (num (zof a.data.toList)),.agg (num (zof b.data.toList)),.bool (chk a.data.toList&&chk b.data.toList)])∧Below w.heap.size w w':=by
 have hla:=fun w hE=>load_any a w hE
 have hlb:=fun w hE=>load_any b w hE
 unfold num at *
 generalize chk a.data.toList=ca at *
 generalize chk b.data.toList=cb at *
 generalize wd (zof a.data.toList).natAbs=f at *
 generalize wd (zof b.data.toList).natAbs=g at *
 generalize decide (zof a.data.toList<0)=s at *
 generalize decide (zof b.data.toList<0)=t at *
 replace hla:=Hd hla
 replace hlb:=Hd hlb
 replace hE:=Hd hE
 go_enter Tryz.func136,Tryz.ntmps136
 go_wp2_with fail
 rw[←nv_falses]
 have k0:Keep [] w ((w.alloc (.cells (nv false fun _=>0) 181)).alloc (.cells (nv false fun _=>0) 181)):=((Keep.refl _ _).alloc _).alloc _
 have b0:=(Blk.new w (nv false fun _=>0) 181).alloc (.cells (nv false fun _=>0) 181)
 have b1:=Blk.new (w.alloc (.cells (nv false fun _=>0) 181)) (nv false fun _=>0) 181
 have hs0:((w.alloc (.cells (nv false fun _=>0) 181)).alloc (.cells (nv false fun _=>0) 181)).heap.size=w.heap.size+2:=by simp
 rw[World.size_alloc]at b1
 generalize (w.alloc (.cells (nv false fun _=>0) 181)).alloc (.cells (nv false fun _=>0) 181)=W at *
 have hE0:=hE.out.below k0.below
 refine(hla.out W hE0).mono ?_
 rintro e w1 ⟨rfl,hb1⟩
 have k1:Keep [] w w1:=k0.trans (Keep.ofBelow hb1) (by simp)
 have c0:Blk w1 w.heap.size (nv false fun _=>0) 181:=b0.keep (Keep.ofBelow hb1) (by simp)
 have c1:Blk w1 (w.heap.size+1) (nv false fun _=>0) 181:=b1.keep (Keep.ofBelow hb1) (by simp)
 have hs1:=hb1.size
 rw[hs0]at hs1
 clear hE0 hb1 b0 b1 k0 hs0
 replace k1:=Hd k1
 replace c0:=Hd c0
 replace c1:=Hd c1
 go_wp2_with (first|(with_reducible refine wpList_store_rowTo rfl 181 (.tmp 7) (.tmp 14) rfl rfl w1.heap.size (nv s f) rfl rfl 181 _ (Blk.eq (Blk.new _ _ _)) (by rw[nv_size];exact Tryz.infoN) (zerosTo s f) (nv_one _ _) ?_))
 have hE1:Env w1:=hE.out.below k1.out.below
 have m1:Keep [] w ((w1.alloc _).setRow w1.heap.size (nv s f)):=((k1.out.alloc (.cells (nv false fun _=>0) 181)).setRow (by have:=hs1;omega) _)
 have e0:Blk _ w.heap.size (nv false fun _=>0) 181:=(c0.out.alloc (.cells (nv false fun _=>0) 181)).setRow_other (g:=w1.heap.size) (cs':=nv s f) (by have:=hs1;omega)
 have e1:Blk _ (w.heap.size+1) (nv false fun _=>0) 181:=(c1.out.alloc (.cells (nv false fun _=>0) 181)).setRow_other (g:=w1.heap.size) (cs':=nv s f) (by have:=hs1;omega)
 have e2:Blk _ w1.heap.size (nv s f) 181:=(Blk.new w1 (nv false fun _=>0) 181).setRow
 rw[←nv_falses]
 generalize (w1.alloc (.cells (nv false fun _=>0) 181)).setRow w1.heap.size (nv s f)=W1 at *
 have hE2:=hE.out.below m1.below
 refine(hlb.out W1 hE2).mono ?_
 rintro e w2 ⟨rfl,hb2⟩
 have m2:Keep [] w w2:=m1.trans (Keep.ofBelow hb2) (by simp)
 have f0:=e0.keep (Keep.ofBelow hb2) (by simp)
 have f1:=e1.keep (Keep.ofBelow hb2) (by simp)
 have f2:=e2.keep (Keep.ofBelow hb2) (by simp)
 have hs2:=f2.lt
 clear hE1 hE2 hb2 e0 e1 e2 m1
 replace m2:=Hd m2
 replace f0:=Hd f0
 replace f1:=Hd f1
 replace f2:=Hd f2
 generalize w1.heap.size=B at *
 cases ca
 case false=>
  go_wp2_with (first|(with_reducible refine wpList_store_rowTo rfl 181 (.tmp 9) (.tmp 19) rfl rfl w2.heap.size (nv t g) rfl rfl 181 _ (Blk.eq (Blk.new _ _ _)) (by rw[nv_size];exact Tryz.infoN) (zerosTo t g) (nv_one _ _) ?_))
  have n2:Keep [] w ((w2.alloc _).setRow w2.heap.size (nv t g)):=((m2.out.alloc (.cells (nv false fun _=>0) 181)).setRow (by have:=hs2;have:=m2.out.size;omega) _)
  have g0:Blk _ w.heap.size (nv false fun _=>0) 181:=(f0.out.alloc (.cells (nv false fun _=>0) 181)).setRow_other (g:=w2.heap.size) (cs':=nv t g) (by have:=hs2;omega)
  have g1:Blk _ (w.heap.size+1) (nv false fun _=>0) 181:=(f1.out.alloc (.cells (nv false fun _=>0) 181)).setRow_other (g:=w2.heap.size) (cs':=nv t g) (by have:=hs2;omega)
  have g2:Blk _ B (nv s f) 181:=(f2.out.alloc (.cells (nv false fun _=>0) 181)).setRow_other (g:=w2.heap.size) (cs':=nv t g) (by have:=hs2;omega)
  have g3:Blk _ w2.heap.size (nv t g) 181:=(Blk.new w2 (nv false fun _=>0) 181).setRow
  rw[←nv_falses]
  generalize (w2.alloc (.cells (nv false fun _=>0) 181)).setRow w2.heap.size (nv t g)=W2 at *
  have hs3:w.heap.size+2≤w2.heap.size:=by omega
  clear f0 f1 f2 m2
  generalize w2.heap.size=C at *
  have q0:Blk W2.drew w.heap.size (nv false fun _=>0) 181:=g0
  have q1:Blk W2.drew (w.heap.size+1) (nv false fun _=>0) 181:=g1
  have q2:Blk W2.drew B (nv s f) 181:=g2
  have q3:Blk W2.drew C (nv t g) 181:=g3
  have qk:Keep [] w W2.drew:=n2.drewN 1
  have u0:Blk (W2.drew.setRow w.heap.size (nv s f)) w.heap.size (nv s f) 181:=q0.setRow
  have u1:Blk (W2.drew.setRow w.heap.size (nv s f)) (w.heap.size+1) (nv false fun _=>0) 181:=q1.setRow_other (by omega)
  have u2:Blk (W2.drew.setRow w.heap.size (nv s f)) B (nv s f) 181:=q2.setRow_other (by omega)
  have u3:Blk (W2.drew.setRow w.heap.size (nv s f)) C (nv t g) 181:=q3.setRow_other (by omega)
  have v0:Blk ((W2.drew.setRow w.heap.size (nv s f)).setRow (w.heap.size+1) (nv t g)) w.heap.size (nv s f) 181:=u0.setRow_other (by omega)
  have v1:Blk ((W2.drew.setRow w.heap.size (nv s f)).setRow (w.heap.size+1) (nv t g)) (w.heap.size+1) (nv t g) 181:=u1.setRow
  have v2:Blk ((W2.drew.setRow w.heap.size (nv s f)).setRow (w.heap.size+1) (nv t g)) B (nv s f) 181:=u2.setRow_other (by omega)
  have v3:Blk ((W2.drew.setRow w.heap.size (nv s f)).setRow (w.heap.size+1) (nv t g)) C (nv t g) 181:=u3.setRow_other (by omega)
  clear g0 g1 g2 g3 n2
  replace qk:=Hd qk
  have hiN:∀s f,(Tryz.prog.info? 181).map (·.size)=some (nv s f).size:=fun s f=>by rw[nv_size];exact Tryz.infoN
  refine wp_region_held_drew (S:=fun w'=>Blk w' B (nv s f) 181∧Blk w' C (nv t g) 181) (by kernel_rfl) ⟨q2,q3⟩ (fun hS=>?_)
  refine wpAnyH_take (i:=0) (v:=.agg (nv s f)) rfl (by kernel_rfl) (by kernel_rfl) (by kernel_rfl) (fun _ _ _ h=>h) (yields_row (by kernel_rfl) 181 (.tmp 7) rfl B (nv s f) _ rfl (fun _ h=>h.1) Tryz.underlying181 rfl (hiN _ _)) hS ?_
  simp only[List.getElem_toArray,List.getElem_cons_succ,List.getElem_cons_zero,Act.put,List.setIfInBounds_toArray,List.set_cons_zero,List.set_cons_succ]
  refine wpAnyH_take (i:=1) (v:=.agg (nv t g)) rfl (by kernel_rfl) (by kernel_rfl) (by kernel_rfl) (fun _ _ _ h=>h) (yields_row (by kernel_rfl) 181 (.tmp 9) rfl C (nv t g) _ rfl (fun _ h=>h.2) Tryz.underlying181 rfl (hiN _ _)) hS ?_
  simp only[List.getElem_toArray,List.getElem_cons_succ,List.getElem_cons_zero,Act.put,List.setIfInBounds_toArray,List.set_cons_zero,List.set_cons_succ]
  refine wpAnyH_take (i:=2) (v:=.bool false) rfl (by kernel_rfl) (by kernel_rfl) (by kernel_rfl) (fun _ _ _ h=>h) (.inl ⟨by kernel_rfl,fun _ _=>by kernel_rfl⟩) hS ?_
  simp only[List.getElem_toArray,List.getElem_cons_succ,List.getElem_cons_zero,Act.put,List.setIfInBounds_toArray,List.set_cons_zero,List.set_cons_succ]
  refine wpAnyH_take (i:=3) (v:=.bool false) rfl (by kernel_rfl) (by kernel_rfl) (by kernel_rfl) (fun _ _ _ h=>h) (.inl ⟨by kernel_rfl,fun _ _=>by kernel_rfl⟩) hS ?_
  simp only[List.getElem_toArray,List.getElem_cons_succ,List.getElem_cons_zero,Act.put,List.setIfInBounds_toArray,List.set_cons_zero,List.set_cons_succ]
  refine wpAnyH_take (i:=4) (v:=undef) rfl (by kernel_rfl) (by kernel_rfl) (by kernel_rfl) (fun _ _ _ h=>h) (.inr ⟨by kernel_rfl,rfl⟩) hS ?_
  simp only[List.getElem_toArray,List.getElem_cons_succ,List.getElem_cons_zero,Act.put,List.setIfInBounds_toArray,List.set_cons_zero,List.set_cons_succ]
  refine wpAnyH_take (i:=5) (v:=.bool (false)) rfl (by kernel_rfl) (by kernel_rfl) (by kernel_rfl) (fun _ _ _ h=>h) (.inl ⟨by kernel_rfl,fun _ _=>by kernel_rfl⟩) hS ?_
  simp only[List.getElem_toArray,List.getElem_cons_succ,List.getElem_cons_zero,Act.put,List.setIfInBounds_toArray,List.set_cons_zero,List.set_cons_succ]
  refine wpAnyH_ready (rs:=[6]) (by kernel_rfl) (by simp) ?_
  refine AllReadyH.cons rfl (fun K hK=>?_) AllReadyH.nil
  rw[if_pos (by rfl)]
  simp only[List.getElem_toArray,List.getElem_cons_succ,List.getElem_cons_zero]
  with_reducible refine wp_store_row 181 (.tmp 4) (.tmp 21) rfl w.heap.size (nv s f) rfl rfl 181 _ (Blk.eq q0) (hiN _ _) (by rw[nv_size,nv_size]) (nv_one _ _) ?_
  refine hK.out _ _ ⟨u2,u3⟩ (fun hS=>?_)
  simp only[List.getElem_toArray,List.getElem_cons_succ,List.getElem_cons_zero,Act.put,List.setIfInBounds_toArray,List.set_cons_zero,List.set_cons_succ]
  refine wpAnyH_ready (rs:=[7]) (by kernel_rfl) (by simp) ?_
  refine AllReadyH.cons rfl (fun K hK=>?_) AllReadyH.nil
  rw[if_pos (by rfl)]
  simp only[List.getElem_toArray,List.getElem_cons_succ,List.getElem_cons_zero]
  with_reducible refine wp_store_row 181 (.tmp 5) (.tmp 22) rfl (w.heap.size+1) (nv t g) rfl rfl 181 _ (Blk.eq u1) (hiN _ _) (by rw[nv_size,nv_size]) (nv_one _ _) ?_
  refine hK.out _ _ ⟨v2,v3⟩ (fun hS=>?_)
  simp only[List.getElem_toArray,List.getElem_cons_succ,List.getElem_cons_zero,Act.put,List.setIfInBounds_toArray,List.set_cons_zero,List.set_cons_succ]
  refine wpAnyH_take (i:=8) (v:=.bool (false)) rfl (by kernel_rfl) (by kernel_rfl) (by kernel_rfl) (fun _ _ _ h=>h) (.inl ⟨by kernel_rfl,fun _ _=>by kernel_rfl⟩) hS ?_
  simp only[List.getElem_toArray,List.getElem_cons_succ,List.getElem_cons_zero,Act.put,List.setIfInBounds_toArray,List.set_cons_zero,List.set_cons_succ]
  refine wpAnyH_done (by kernel_rfl) ?_ _
  go_wp2_with fail
  exact bodyPost_ret (v:=.tuple #[.agg (nv s f),.agg (nv t g),.bool (false)]) (res3 rfl _ _ w.heap.size (w.heap.size+1) 181 181 _ _ (0,0) (0,0) _ _ _ rfl rfl (Blk.eq v0) rfl (Blk.eq v1) Tryz.underlying181 rfl (hiN _ _) Tryz.underlying181 rfl (hiN _ _)) rfl
   ⟨rfl,((qk.out.setRow (by omega) _).setRow (by omega) _).below⟩
 case true=>
  go_wp2_with (first|(with_reducible refine wpList_store_rowTo rfl 181 (.tmp 9) (.tmp 19) rfl rfl w2.heap.size (nv t g) rfl rfl 181 _ (Blk.eq (Blk.new _ _ _)) (by rw[nv_size];exact Tryz.infoN) (zerosTo t g) (nv_one _ _) ?_))
  have n2:Keep [] w ((w2.alloc _).setRow w2.heap.size (nv t g)):=((m2.out.alloc (.cells (nv false fun _=>0) 181)).setRow (by have:=hs2;have:=m2.out.size;omega) _)
  have g0:Blk _ w.heap.size (nv false fun _=>0) 181:=(f0.out.alloc (.cells (nv false fun _=>0) 181)).setRow_other (g:=w2.heap.size) (cs':=nv t g) (by have:=hs2;omega)
  have g1:Blk _ (w.heap.size+1) (nv false fun _=>0) 181:=(f1.out.alloc (.cells (nv false fun _=>0) 181)).setRow_other (g:=w2.heap.size) (cs':=nv t g) (by have:=hs2;omega)
  have g2:Blk _ B (nv s f) 181:=(f2.out.alloc (.cells (nv false fun _=>0) 181)).setRow_other (g:=w2.heap.size) (cs':=nv t g) (by have:=hs2;omega)
  have g3:Blk _ w2.heap.size (nv t g) 181:=(Blk.new w2 (nv false fun _=>0) 181).setRow
  rw[←nv_falses]
  generalize (w2.alloc (.cells (nv false fun _=>0) 181)).setRow w2.heap.size (nv t g)=W2 at *
  have hs3:w.heap.size+2≤w2.heap.size:=by omega
  clear f0 f1 f2 m2
  generalize w2.heap.size=C at *
  have q0:Blk W2.drew w.heap.size (nv false fun _=>0) 181:=g0
  have q1:Blk W2.drew (w.heap.size+1) (nv false fun _=>0) 181:=g1
  have q2:Blk W2.drew B (nv s f) 181:=g2
  have q3:Blk W2.drew C (nv t g) 181:=g3
  have qk:Keep [] w W2.drew:=n2.drewN 1
  have u0:Blk (W2.drew.setRow w.heap.size (nv s f)) w.heap.size (nv s f) 181:=q0.setRow
  have u1:Blk (W2.drew.setRow w.heap.size (nv s f)) (w.heap.size+1) (nv false fun _=>0) 181:=q1.setRow_other (by omega)
  have u2:Blk (W2.drew.setRow w.heap.size (nv s f)) B (nv s f) 181:=q2.setRow_other (by omega)
  have u3:Blk (W2.drew.setRow w.heap.size (nv s f)) C (nv t g) 181:=q3.setRow_other (by omega)
  have v0:Blk ((W2.drew.setRow w.heap.size (nv s f)).setRow (w.heap.size+1) (nv t g)) w.heap.size (nv s f) 181:=u0.setRow_other (by omega)
  have v1:Blk ((W2.drew.setRow w.heap.size (nv s f)).setRow (w.heap.size+1) (nv t g)) (w.heap.size+1) (nv t g) 181:=u1.setRow
  have v2:Blk ((W2.drew.setRow w.heap.size (nv s f)).setRow (w.heap.size+1) (nv t g)) B (nv s f) 181:=u2.setRow_other (by omega)
  have v3:Blk ((W2.drew.setRow w.heap.size (nv s f)).setRow (w.heap.size+1) (nv t g)) C (nv t g) 181:=u3.setRow_other (by omega)
  clear g0 g1 g2 g3 n2
  replace qk:=Hd qk
  have hiN:∀s f,(Tryz.prog.info? 181).map (·.size)=some (nv s f).size:=fun s f=>by rw[nv_size];exact Tryz.infoN
  refine wp_region_held_drew (S:=fun w'=>Blk w' B (nv s f) 181∧Blk w' C (nv t g) 181) (by kernel_rfl) ⟨q2,q3⟩ (fun hS=>?_)
  refine wpAnyH_take (i:=0) (v:=.agg (nv s f)) rfl (by kernel_rfl) (by kernel_rfl) (by kernel_rfl) (fun _ _ _ h=>h) (yields_row (by kernel_rfl) 181 (.tmp 7) rfl B (nv s f) _ rfl (fun _ h=>h.1) Tryz.underlying181 rfl (hiN _ _)) hS ?_
  simp only[List.getElem_toArray,List.getElem_cons_succ,List.getElem_cons_zero,Act.put,List.setIfInBounds_toArray,List.set_cons_zero,List.set_cons_succ]
  refine wpAnyH_take (i:=1) (v:=.agg (nv t g)) rfl (by kernel_rfl) (by kernel_rfl) (by kernel_rfl) (fun _ _ _ h=>h) (yields_row (by kernel_rfl) 181 (.tmp 9) rfl C (nv t g) _ rfl (fun _ h=>h.2) Tryz.underlying181 rfl (hiN _ _)) hS ?_
  simp only[List.getElem_toArray,List.getElem_cons_succ,List.getElem_cons_zero,Act.put,List.setIfInBounds_toArray,List.set_cons_zero,List.set_cons_succ]
  refine wpAnyH_take (i:=2) (v:=.bool true) rfl (by kernel_rfl) (by kernel_rfl) (by kernel_rfl) (fun _ _ _ h=>h) (.inl ⟨by kernel_rfl,fun _ _=>by kernel_rfl⟩) hS ?_
  simp only[List.getElem_toArray,List.getElem_cons_succ,List.getElem_cons_zero,Act.put,List.setIfInBounds_toArray,List.set_cons_zero,List.set_cons_succ]
  refine wpAnyH_take (i:=3) (v:=.bool true) rfl (by kernel_rfl) (by kernel_rfl) (by kernel_rfl) (fun _ _ _ h=>h) (.inl ⟨by kernel_rfl,fun _ _=>by kernel_rfl⟩) hS ?_
  simp only[List.getElem_toArray,List.getElem_cons_succ,List.getElem_cons_zero,Act.put,List.setIfInBounds_toArray,List.set_cons_zero,List.set_cons_succ]
  refine wpAnyH_take (i:=4) (v:=.bool cb) rfl (by kernel_rfl) (by kernel_rfl) (by kernel_rfl) (fun _ _ _ h=>h) (.inl ⟨by kernel_rfl,fun _ _=>by kernel_rfl⟩) hS ?_
  simp only[List.getElem_toArray,List.getElem_cons_succ,List.getElem_cons_zero,Act.put,List.setIfInBounds_toArray,List.set_cons_zero,List.set_cons_succ]
  refine wpAnyH_take (i:=5) (v:=.bool (cb)) rfl (by kernel_rfl) (by kernel_rfl) (by kernel_rfl) (fun _ _ _ h=>h) (.inl ⟨by kernel_rfl,fun _ _=>by kernel_rfl⟩) hS ?_
  simp only[List.getElem_toArray,List.getElem_cons_succ,List.getElem_cons_zero,Act.put,List.setIfInBounds_toArray,List.set_cons_zero,List.set_cons_succ]
  refine wpAnyH_ready (rs:=[6]) (by kernel_rfl) (by simp) ?_
  refine AllReadyH.cons rfl (fun K hK=>?_) AllReadyH.nil
  rw[if_pos (by rfl)]
  simp only[List.getElem_toArray,List.getElem_cons_succ,List.getElem_cons_zero]
  with_reducible refine wp_store_row 181 (.tmp 4) (.tmp 21) rfl w.heap.size (nv s f) rfl rfl 181 _ (Blk.eq q0) (hiN _ _) (by rw[nv_size,nv_size]) (nv_one _ _) ?_
  refine hK.out _ _ ⟨u2,u3⟩ (fun hS=>?_)
  simp only[List.getElem_toArray,List.getElem_cons_succ,List.getElem_cons_zero,Act.put,List.setIfInBounds_toArray,List.set_cons_zero,List.set_cons_succ]
  refine wpAnyH_ready (rs:=[7]) (by kernel_rfl) (by simp) ?_
  refine AllReadyH.cons rfl (fun K hK=>?_) AllReadyH.nil
  rw[if_pos (by rfl)]
  simp only[List.getElem_toArray,List.getElem_cons_succ,List.getElem_cons_zero]
  with_reducible refine wp_store_row 181 (.tmp 5) (.tmp 22) rfl (w.heap.size+1) (nv t g) rfl rfl 181 _ (Blk.eq u1) (hiN _ _) (by rw[nv_size,nv_size]) (nv_one _ _) ?_
  refine hK.out _ _ ⟨v2,v3⟩ (fun hS=>?_)
  simp only[List.getElem_toArray,List.getElem_cons_succ,List.getElem_cons_zero,Act.put,List.setIfInBounds_toArray,List.set_cons_zero,List.set_cons_succ]
  refine wpAnyH_take (i:=8) (v:=.bool (cb)) rfl (by kernel_rfl) (by kernel_rfl) (by kernel_rfl) (fun _ _ _ h=>h) (.inl ⟨by kernel_rfl,fun _ _=>by kernel_rfl⟩) hS ?_
  simp only[List.getElem_toArray,List.getElem_cons_succ,List.getElem_cons_zero,Act.put,List.setIfInBounds_toArray,List.set_cons_zero,List.set_cons_succ]
  refine wpAnyH_done (by kernel_rfl) ?_ _
  go_wp2_with fail
  exact bodyPost_ret (v:=.tuple #[.agg (nv s f),.agg (nv t g),.bool (cb)]) (res3 rfl _ _ w.heap.size (w.heap.size+1) 181 181 _ _ (0,0) (0,0) _ _ _ rfl rfl (Blk.eq v0) rfl (Blk.eq v1) Tryz.underlying181 rfl (hiN _ _) Tryz.underlying181 rfl (hiN _ _)) rfl
   ⟨rfl,((qk.out.setRow (by omega) _).setRow (by omega) _).below⟩
theorem num_eq(z:Int):num z=nv (decide (z<0)) (wd z.natAbs):=rfl
theorem top2:top+top≤B9 ^ 16:=by unfold top B9;decide
theorem plusP_lt(s:Bool)(N:Nat)(t:Bool)(M:Nat)(hN:N<top)(hM:M<top):(plusP s N t M).2<B9 ^ 16:=by
 have h:=top2
 unfold plusP
 split
 ·show N+M<_;omega
 ·split
  ·show M-N<_;omega
  ·show N-M<_;omega
theorem nv_flip(t u:Bool)(g:Nat→Nat):(nv t g).setIfInBounds 0 (.bool u)=nv u g:=by simp[nv]
structure NW(w W:World)(B:Nat)(s t:Bool)(f g:Nat→Nat):Prop where
 keep:Keep [] w W
 le:w.heap.size≤B
 b0:Blk W B (nv s f) 181
 b1:Blk W (B+1) (nv t g) 181
theorem NW.neg{w W:World}{B:Nat}{s t:Bool}{f g:Nat→Nat}(h:NW w W B s t f g)(u:Bool):NW w (W.setCell ⟨B+1,0,none⟩ (.bool u)) B s u f g:=
 ⟨h.keep.setCell (by have:=h.le;simp;omega) _,h.le,h.b0.set_other _ (by simp) _,by have:=h.b1.set 0 (.bool u);rwa [nv_flip]at this⟩
theorem NW.below{w W W':World}{B:Nat}{s t:Bool}{f g:Nat→Nat}(h:NW w W B s t f g)(hb:Below W.heap.size W W'):NW w W' B s t f g:=
 ⟨h.keep.trans (Keep.ofBelow hb) (by simp),h.le,h.b0.keep (Keep.ofBelow hb) (by simp),h.b1.keep (Keep.ofBelow hb) (by simp)⟩
theorem NW.cells{w W:World}{B:Nat}{s t:Bool}{f g:Nat→Nat}(h:NW w W B s t f g):W.cell? ⟨B,0,none⟩=some (.bool s)∧W.cell? ⟨B+1,0,none⟩=some (.bool t)∧W.frozen? ⟨B+1,0,none⟩=false:=
 ⟨h.b0.cell _ (nv_zero _ _),h.b1.cell _ (nv_zero _ _),h.b1.free 0⟩
theorem NW.made{w w1:World}(hb:Below w.heap.size w w1)(s t:Bool)(f g:Nat→Nat):NW w ((((w1.alloc (.cells (nv false fun _=>0) 181)).alloc (.cells (nv false fun _=>0) 181)).setRow w1.heap.size (nv s f)).setRow (w1.heap.size+1) (nv t g)) w1.heap.size s t f g:=by
 have q0:Blk ((w1.alloc (.cells (nv false fun _=>0) 181)).alloc (.cells (nv false fun _=>0) 181)) w1.heap.size (nv false fun _=>0) 181:=(Blk.new _ _ _).alloc _
 have q1:Blk (((w1.alloc (.cells (nv false fun _=>0) 181)).alloc (.cells (nv false fun _=>0) 181)).setRow w1.heap.size (nv s f)) (w1.heap.size+1) (nv false fun _=>0) 181:=by
  have:=Blk.new (w1.alloc (.cells (nv false fun _=>0) 181)) (nv false fun _=>0) 181
  rw[World.size_alloc]at this
  exact this.setRow_other (by omega)
 have hs:=hb.size
 exact⟨((((Keep.ofBelow hb).alloc _).alloc _).setRow (by omega) _).setRow (by omega) _,hs,(q0.setRow).setRow_other (by omega),q1.setRow⟩
open Go.Sort in
theorem below_grow1(w:World)(k:Nat)(os:Array Obj):Below w.heap.size w (grow (w.drewN k) os):=
 ⟨rfl,rfl,rfl,by show w.heap.size≤(w.heap++os).size;simp,fun i hi=>by show(w.heap++os)[i]? = _;rw[Array.getElem?_append_left hi]⟩
theorem itoa_canon(n:Int):Lib.itoa n++[46,48]=canon (n * E20):=by
 have hd:∀k:Nat,Lib.decDigits k=orZero (digs k):=by
  intro k
  unfold orZero
  by_cases h:k=0
  ·subst h;rw[if_pos (by rfl),Lib.decDigits];rfl
  ·rw[if_neg (fun e=>h (digs_nil.1 e))];unfold digs;rw[if_neg h]
 have hp:=E20_pos
 have ha:(n * E20).natAbs=n.natAbs * E20:=by rw[Int.natAbs_mul];simp
 have h1:(n * E20).natAbs / 10 ^ 20=n.natAbs:=by rw[ha];exact Nat.mul_div_cancel _ hp
 have h2:frac 20 (n * E20).natAbs=[]:=by
  rw[frac_nil,ha];exact Nat.mul_mod_left _ _
 have h3:decide (n * E20<0)=decide (n<0):=by
  rw[decide_eq_decide]
  have hE:(0:Int)<(E20:Int):=by omega
  constructor
  ·intro h
   apply Classical.byContradiction
   intro hc
   have:=Int.mul_nonneg (show 0≤n by omega) (Int.le_of_lt hE)
   omega
  ·intro h;exact Int.mul_neg_of_neg_of_pos h hE
 rw[canon_shape,h1,h2,h3,←hd]
 unfold Lib.itoa
 by_cases hn:n<0
 ·rw[decide_eq_true hn];simp[hn,orZero]
 ·rw[decide_eq_false hn];simp[hn,orZero]
  try rw[show n.toNat=n.natAbs by omega]
theorem ofInt_small(n:Int)(h0:-9223372036854775808≤n)(h1:n≤9223372036854775807):small (n * E20):=by
 unfold small
 have ha:(n * E20).natAbs=n.natAbs * E20:=by rw[Int.natAbs_mul];simp
 have h2:n.natAbs≤9223372036854775808:=by omega
 have h3:9223372036854775808 * E20<top:=by unfold E20 top;decide
 rw[ha]
 exact Nat.lt_of_le_of_lt (Nat.mul_le_mul_right _ h2) h3
theorem ofInt_call(n:Int)(w:World)(hE:EnvD w)(h0:-9223372036854775808≤n)(h1:n≤9223372036854775807):
 Calls Tryz.prog 107 #[.int .i64 n] w fun e w'=>e=.returned (.string (tx (canon (n * E20))))∧Below w.heap.size w w':=by
 have hf:=Tryz.strconv_FormatInt_10 n h0 h1 w hE.pow
 have hc:=itoa_canon n
 have hlen:(Lib.itoa n).length≤62:=by
  have h2:=canon_len (n * E20) (ofInt_small n h0 h1)
  rw[←hc,List.length_append]at h2
  omega
 have hsz:((⟨(Lib.itoa n).toArray⟩:ByteArray).size:Int)+((⟨#[46,48]⟩:ByteArray).size:Int)≤9223372036854775807:=by
  have a1:(⟨(Lib.itoa n).toArray⟩:ByteArray).size=(Lib.itoa n).length:=rfl
  have a2:(⟨#[46,48]⟩:ByteArray).size=2:=rfl
  rw[a1,a2];omega
 obtain⟨t,ht⟩:∃t:ByteArray,(⟨(Lib.itoa n).toArray⟩:ByteArray)=t:=⟨_,rfl⟩
 have htl:t++⟨#[46,48]⟩=tx (canon (n * E20)):=by rw[←hc,←ht];apply ba_ext;simp
 rw[ht]at hf hsz
 clear hc ht hE
 replace hf:=Hd hf
 replace htl:=Hd htl
 go_enter Tryz.func107,Tryz.ntmps107
 go_wp2_with fail
 refine hf.out.mono ?_
 rintro e w1 ⟨rfl,k,os,rfl⟩
 go_wp2_with fail
 go_ret
 exact⟨ret_val (by show Value.string _=_;first|rfl|rw[htl.out]),below_grow1 _ _ _⟩
end Go.Proofs.YtcaeipdgbaligaaGreatDoor.dec
