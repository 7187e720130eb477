/- Texts DecBuilder, DecWords, DecTimes, DecVal, DecDigP, DecWordsOf, one behind the other. -/
import Derived.Test.YtcaeipdgbaligaaGreatDoorDecShelf
set_option linter.unusedVariables false
set_option maxRecDepth 100000
set_option maxHeartbeats 2000000
namespace Go.Proofs.YtcaeipdgbaligaaGreatDoor.dec
open Go.ChangeShapes Go.WideShapes Go.ChangeAt Go.RowKit kit
def wv(f:Nat→Nat):Array Value:=((List.range 16).map fun i=>Value.int .u64 (f i:Nat)).toArray
theorem wv_size(f:Nat→Nat):(wv f).size=16:=by simp[wv]
theorem wv_get(f:Nat→Nat)(i:Nat)(h:i<16):(wv f)[i]? = some (.int .u64 (f i:Nat)):=by simp[wv,h]
def putW(cs:Array Value)(off:Nat)(h:Nat→Nat)(k:Nat):Array Value:=(List.range k).foldl (fun a i=>a.setIfInBounds (off+i) (.int .u64 (h i:Nat))) cs
theorem putW_succ(cs:Array Value)(off:Nat)(h:Nat→Nat)(k:Nat):putW cs off h (k+1)=(putW cs off h k).setIfInBounds (off+k) (.int .u64 (h k:Nat)):=by
 unfold putW;rw[List.range_succ,List.foldl_append];rfl
theorem putW_size(cs:Array Value)(off:Nat)(h:Nat→Nat)(k:Nat):(putW cs off h k).size=cs.size:=by
 induction k with
 |zero=>rfl
 |succ k ih=>rw[putW_succ,Array.size_setIfInBounds,ih]
theorem putW_get(cs:Array Value)(off:Nat)(h:Nat→Nat)(k j:Nat):(putW cs off h k)[j]? = if off≤j∧j<off+k∧j<cs.size then some (.int .u64 (h (j-off):Nat)) else cs[j]?:=by
 induction k with
 |zero=>rw[if_neg (by omega)];rfl
 | succ k ih =>
  rw[putW_succ,Array.getElem?_setIfInBounds,putW_size,ih]
  by_cases h1:off+k=j
  ·subst h1
   by_cases h2:off+k<cs.size
   ·rw[if_pos rfl,if_pos h2,if_pos ⟨by omega,by omega,h2⟩,show off+k-off=k by omega]
   ·rw[if_pos rfl,if_neg h2,if_neg (by omega),Array.getElem?_eq_none (by omega)]
  ·rw[if_neg h1]
   by_cases h2:off≤j∧j<off+k∧j<cs.size
   ·rw[if_pos h2,if_pos (by omega)]
   ·rw[if_neg h2,if_neg (by omega)]
def base:Nat:=1000000000
def carry(f g:Nat→Nat):Nat→Nat
 |0=>0
 |k+1=>(f k+g k+carry f g k) / 1000000000
def sumW(f g:Nat→Nat)(k:Nat):Nat:=(f k+g k+carry f g k) % 1000000000
theorem carry_le(f g:Nat→Nat)(hf:∀i,f i<1000000000)(hg:∀i,g i<1000000000)(k:Nat):carry f g k≤1:=by
 induction k with
 |zero=>simp[carry]
 |succ k ih=>have:=hf k;have:=hg k;simp only[carry];omega
theorem add_any(b off:Nat)(cs:Array Value)(T:TypeId)(f g:Nat→Nat)(w:World)(hB:Blk w b cs T)(hcs:∀i,i<16→cs[off+i]? = some (.int .u64 (f i:Nat)))
 (hf:∀i,f i<1000000000)(hg:∀i,g i<1000000000):
 Calls Tryz.prog 155 #[.pointer (some ⟨b,off,none⟩),.agg (wv g)] w fun e w'=>e=.returned (.tuple #[])∧Keep [b] w w'∧Blk w' b (putW cs off (sumW f g) 16) T:=by
 replace hf:=Hd hf
 replace hg:=Hd hg
 replace hcs:=Hd hcs
 have hbl:=hB.lt
 go_enter Tryz.func155,Tryz.ntmps155
 go_wp2
 go_loopw [4,7] (fun vc vi wr=>(∃k:Nat,k≤16∧vi=.int .i64 k∧vc=.int .u64 (carry f g k:Nat)∧Blk wr b (putW cs off (sumW f g) k) T)∧Keep [b] w wr∧Blk wr w.heap.size (wv g) 179) (fun _ vi _=>16-(intOf vi).toNat)
 case atStart=>exact⟨⟨0,by omega,rfl,rfl,hB.alloc _⟩,(Keep.refl _ _).alloc _,Blk.new _ _ _⟩
 case round=>
  obtain⟨⟨k,hk,rfl,rfl,hblk⟩,hkeep,hx⟩:=hrel
  by_cases hlt:k<16
  ·have hc1:wr.cell? ⟨b,off+k,none⟩=some (.int .u64 (f k:Nat)):=hblk.cell _ (by rw[putW_get,if_neg (by omega)];exact hcs.out k hlt)
   have hc2:wr.cell? ⟨w.heap.size,k,none⟩=some (.int .u64 (g k:Nat)):=hx.cell _ (wv_get g k hlt)
   have hfz:=hblk.free (off+k)
   have b1:((f k:Nat):Int)≤999999999:=by have:=hf.out k;omega
   have b2:((g k:Nat):Int)≤999999999:=by have:=hg.out k;omega
   have b3:((carry f g k:Nat):Int)≤1:=by have:=carry_le f g hf.out hg.out k;omega
   have hs:sumW f g k=(f k+g k+carry f g k) % 1000000000:=rfl
   have hc:carry f g (k+1)=(f k+g k+carry f g k) / 1000000000:=rfl
   replace hs:=Hd hs
   replace hc:=Hd hc
   replace hblk:=Hd hblk
   replace hx:=Hd hx
   replace hkeep:=Hd hkeep
   generalize f k=x at *
   generalize g k=y at *
   generalize carry f g k=c at *
   go_wp2
   go_quiet (fail)
   go_wp2
   go_roundw
   case rel=>
    refine⟨⟨k+1,by omega,by go_num,by rw[hc.out];rfl,?_⟩,(hkeep.out.drewN _).setCell (by simp) _,((hx.out.drewN _).set_other _ (by simp;omega) _)⟩
    rw[putW_succ,hs.out]
    exact(hblk.out.drewN _).set _ _
   case measure=>simp[intOf];omega
  ·obtain rfl:k=16:=by omega
   go_wp2
   go_end0
   exact⟨rfl,hkeep,hblk⟩
def borrow(f g:Nat→Nat):Nat→Nat
 |0=>0
 |k+1=>1-(f k+1000000000-g k-borrow f g k) / 1000000000
def subW(f g:Nat→Nat)(k:Nat):Nat:=(f k+1000000000-g k-borrow f g k) % 1000000000
theorem borrow_le(f g:Nat→Nat)(k:Nat):borrow f g k≤1:=by
 cases k with
 |zero=>simp[borrow]
 |succ k=>simp only[borrow];omega
theorem sub_any(b off:Nat)(cs:Array Value)(T:TypeId)(f g:Nat→Nat)(w:World)(hB:Blk w b cs T)(hcs:∀i,i<16→cs[off+i]? = some (.int .u64 (f i:Nat)))
 (hf:∀i,f i<1000000000)(hg:∀i,g i<1000000000):
 Calls Tryz.prog 157 #[.pointer (some ⟨b,off,none⟩),.agg (wv g)] w fun e w'=>e=.returned (.tuple #[])∧Keep [b] w w'∧Blk w' b (putW cs off (subW f g) 16) T:=by
 replace hf:=Hd hf
 replace hg:=Hd hg
 replace hcs:=Hd hcs
 have hbl:=hB.lt
 go_enter Tryz.func157,Tryz.ntmps157
 go_wp2
 go_loopw [4,7] (fun vc vi wr=>(∃k:Nat,k≤16∧vi=.int .i64 k∧vc=.int .u64 (borrow f g k:Nat)∧Blk wr b (putW cs off (subW f g) k) T)∧Keep [b] w wr∧Blk wr w.heap.size (wv g) 179) (fun _ vi _=>16-(intOf vi).toNat)
 case atStart=>exact⟨⟨0,by omega,rfl,rfl,hB.alloc _⟩,(Keep.refl _ _).alloc _,Blk.new _ _ _⟩
 case round=>
  obtain⟨⟨k,hk,rfl,rfl,hblk⟩,hkeep,hx⟩:=hrel
  by_cases hlt:k<16
  ·have hc1:wr.cell? ⟨b,off+k,none⟩=some (.int .u64 (f k:Nat)):=hblk.cell _ (by rw[putW_get,if_neg (by omega)];exact hcs.out k hlt)
   have hc2:wr.cell? ⟨w.heap.size,k,none⟩=some (.int .u64 (g k:Nat)):=hx.cell _ (wv_get g k hlt)
   have hfz:=hblk.free (off+k)
   have b1:((f k:Nat):Int)≤999999999:=by have:=hf.out k;omega
   have b2:((g k:Nat):Int)≤999999999:=by have:=hg.out k;omega
   have b3:((borrow f g k:Nat):Int)≤1:=by have:=borrow_le f g k;omega
   have hs:((subW f g k:Nat):Int)=((f k:Nat)+1000000000-(g k:Nat)-(borrow f g k:Nat):Int) % 1000000000:=by unfold subW;omega
   have hc:((borrow f g (k+1):Nat):Int)=1-((f k:Nat)+1000000000-(g k:Nat)-(borrow f g k:Nat):Int) / 1000000000:=by simp only[borrow];omega
   replace hs:=Hd hs
   replace hc:=Hd hc
   replace hblk:=Hd hblk
   replace hx:=Hd hx
   replace hkeep:=Hd hkeep
   generalize f k=x at *
   generalize g k=y at *
   generalize borrow f g k=c at *
   go_wp2
   go_quiet (fail)
   go_wp2
   go_roundw
   case rel=>
    refine⟨⟨k+1,by omega,by go_num,by rw[hc.out],?_⟩,(hkeep.out.drewN _).setCell (by simp) _,((hx.out.drewN _).set_other _ (by simp;omega) _)⟩
    rw[putW_succ,hs.out]
    exact(hblk.out.drewN _).set _ _
   case measure=>simp[intOf];omega
  ·obtain rfl:k=16:=by omega
   go_wp2
   go_end0
   exact⟨rfl,hkeep,hblk⟩
def cmpW(f g:Nat→Nat):Nat→Int
 |0=>0
 |k+1=>if f k<g k then -1 else if g k<f k then 1 else cmpW f g k
theorem compare_any(f g:Nat→Nat)(w:World):
 Calls Tryz.prog 156 #[.agg (wv f),.agg (wv g)] w fun e w'=>e=.returned (.int .i64 (cmpW f g 16))∧Below w.heap.size w w':=by
 go_enter Tryz.func156,Tryz.ntmps156
 go_wp2
 go_loopw [5] (fun vi wr=>(∃k:Nat,k≤16∧vi=.int .i64 ((k:Int)-1)∧Hid (cmpW f g k=cmpW f g 16))∧Keep [] w wr∧Blk wr w.heap.size (wv f) 179∧Blk wr (w.heap.size+1) (wv g) 179) (fun vi _=>((intOf vi)+1).toNat)
 case atStart=>exact⟨⟨16,by omega,rfl,rfl⟩,((Keep.refl _ _).alloc _).alloc _,(Blk.new _ _ _).alloc _,by have:=Blk.new (w.alloc (.cells (wv f) 179)) (wv g) 179;rwa [World.size_alloc]at this⟩
 case round=>
  obtain⟨⟨k1,hk,rfl,hcmp⟩,hkeep,hx,hy⟩:=hrel
  by_cases h0:k1=0
  ·subst h0
   go_wp2
   go_ret
   exact⟨ret_int hcmp.out,hkeep.below⟩
  ·obtain⟨k,rfl⟩:∃k,k1=k+1:=⟨k1-1,by omega⟩
   have hc1:wr.cell? ⟨w.heap.size,k,none⟩=some (.int .u64 (f k:Nat)):=hx.cell _ (wv_get f k (by omega))
   have hc2:wr.cell? ⟨w.heap.size+1,k,none⟩=some (.int .u64 (g k:Nat)):=hy.cell _ (wv_get g k (by omega))
   have hcm:=hcmp.out
   rw[cmpW]at hcm
   rw[show(((k+1:Nat):Int)-1)=(k:Int) by omega]
   replace hx:=Hd hx
   replace hy:=Hd hy
   replace hkeep:=Hd hkeep
   clear hcmp
   by_cases l1:f k<g k
   ·rw[if_pos l1]at hcm
    replace hcm:=Hd hcm
    have t1:decide (f k<g k)=true:=by simpa using l1
    clear l1
    generalize f k=x at *
    generalize g k=y at *
    go_wp2
    go_quiet (fail)
    go_wp2
    go_ret
    exact⟨ret_int hcm.out,Below_drewN _ hkeep.out.below⟩
   ·rw[if_neg l1]at hcm
    have t1:decide (f k<g k)=false:=by simpa using l1
    by_cases l2:g k<f k
    ·rw[if_pos l2]at hcm
     replace hcm:=Hd hcm
     have t2:decide (g k<f k)=true:=by simpa using l2
     clear l1 l2
     generalize f k=x at *
     generalize g k=y at *
     go_wp2
     go_quiet (fail)
     go_wp2
     go_quiet (fail)
     go_wp2
     go_ret
     exact⟨ret_int hcm.out,Below_drewN _ (Below_drewN _ hkeep.out.below)⟩
    ·rw[if_neg l2]at hcm
     have t2:decide (g k<f k)=false:=by simpa using l2
     replace hcm:=Hd hcm
     clear l1 l2
     generalize f k=x at *
     generalize g k=y at *
     go_wp2
     go_quiet (fail)
     go_wp2
     go_quiet (fail)
     go_wp2
     go_roundw
     case rel=>exact⟨⟨k,by omega,rfl,hcm.out⟩,hkeep.out.drewN _,hx.out.drewN _,hy.out.drewN _⟩
     case measure=>simp[intOf]
def upd(o:Nat→Nat)(j x:Nat):Nat→Nat:=fun i=>if i=j then x else o i
theorem wv_upd(o:Nat→Nat)(j x:Nat)(h:j<16):(wv o).setIfInBounds j (.int .u64 (x:Nat))=wv (upd o j x):=by
 apply Array.ext_getElem?
 intro i
 rw[Array.getElem?_setIfInBounds,wv_size]
 by_cases hi:i<16
 ·rw[wv_get o i hi,wv_get _ i hi]
  unfold upd
  by_cases hj:j=i
  ·subst hj;rw[if_pos rfl,if_pos h,if_pos rfl]
  ·rw[if_neg hj,if_neg (fun e=>hj e.symm)]
 ·rw[if_neg (by omega),Array.getElem?_eq_none (by rw[wv_size];omega),Array.getElem?_eq_none (by rw[wv_size];omega)]
theorem wv_one(o:Nat→Nat):(wv o).all (·.oneCell')=true:=by
 simp only[wv,List.all_toArray,List.all_map,List.all_eq_true];intro i _;rfl
theorem wv_zero:wv (fun _=>0)=#[.int .u64 0,.int .u64 0,.int .u64 0,.int .u64 0,.int .u64 0,.int .u64 0,.int .u64 0,.int .u64 0,.int .u64 0,.int .u64 0,.int .u64 0,.int .u64 0,.int .u64 0,.int .u64 0,.int .u64 0,.int .u64 0]:=rfl
theorem Tryz.infoW:(Tryz.prog.info? 179).map (·.size)=some 16:=by kernel_rfl
def B9:Nat:=1000000000
theorem B9_eq:1000000000=B9:=rfl
theorem B9_pos:0<B9:=by decide
theorem B9_pow(k:Nat):0<B9 ^ k:=Nat.pow_pos B9_pos
def wd(N i:Nat):Nat:=N / B9 ^ i % B9
theorem wd_lt(N i:Nat):wd N i<1000000000:=Nat.mod_lt _ B9_pos
theorem mod_succ(N k:Nat):N % B9 ^ (k+1)=N % B9 ^ k+B9 ^ k * wd N k:=by rw[Nat.pow_succ,Nat.mod_mul];rfl
theorem carry_wd(N M k:Nat):carry (wd N) (wd M) k=(N % B9 ^ k+M % B9 ^ k) / B9 ^ k:=by
 induction k with
 |zero=>simp[carry,Nat.mod_one]
 |succ k ih=>
  rw[carry,ih,mod_succ,mod_succ,B9_eq,Nat.pow_succ,←Nat.div_div_eq_div_mul]
  congr 1
  rw[show N % B9 ^ k+B9 ^ k * wd N k+(M % B9 ^ k+B9 ^ k * wd M k)=(N % B9 ^ k+M % B9 ^ k)+B9 ^ k * (wd N k+wd M k) by rw[Nat.mul_add];omega,Nat.add_mul_div_left _ _ (B9_pow k)]
  omega
theorem div_sum(N M k:Nat):(N+M) / B9 ^ k=N / B9 ^ k+M / B9 ^ k+(N % B9 ^ k+M % B9 ^ k) / B9 ^ k:=by
 conv=>lhs;rw[←Nat.div_add_mod N (B9 ^ k),←Nat.div_add_mod M (B9 ^ k)]
 rw[show B9 ^ k * (N / B9 ^ k)+N % B9 ^ k+(B9 ^ k * (M / B9 ^ k)+M % B9 ^ k)=(N % B9 ^ k+M % B9 ^ k)+B9 ^ k * (N / B9 ^ k+M / B9 ^ k) by rw[Nat.mul_add];omega,Nat.add_mul_div_left _ _ (B9_pow k)]
 omega
theorem sumW_wd(N M k:Nat):sumW (wd N) (wd M) k=wd (N+M) k:=by
 unfold sumW
 rw[carry_wd]
 show(N / B9 ^ k % 1000000000+M / B9 ^ k % 1000000000+(N % B9 ^ k+M % B9 ^ k) / B9 ^ k) % 1000000000=(N+M) / B9 ^ k % 1000000000
 have h:=div_sum N M k
 generalize (N+M) / B9 ^ k=s at *
 generalize N / B9 ^ k=a at *
 generalize M / B9 ^ k=b at *
 generalize (N % B9 ^ k+M % B9 ^ k) / B9 ^ k=c at *
 omega
theorem borrow_wd(M D k:Nat):borrow (wd (M+D)) (wd M) k=carry (wd M) (wd D) k:=by
 induction k with
 |zero=>rfl
 |succ k ih=>
  have h1:wd (M+D) k=(wd M k+wd D k+carry (wd M) (wd D) k) % 1000000000:=(sumW_wd M D k).symm
  have h2:=wd_lt M k
  have h3:=wd_lt D k
  have h4:=carry_le (wd M) (wd D) (wd_lt M) (wd_lt D) k
  rw[borrow,carry,ih,h1]
  omega
theorem subW_wd(N M k:Nat)(h:M≤N):subW (wd N) (wd M) k=wd (N-M) k:=by
 obtain⟨D,rfl⟩:∃D,N=M+D:=⟨N-M,by omega⟩
 rw[Nat.add_sub_cancel_left]
 have h1:wd (M+D) k=(wd M k+wd D k+carry (wd M) (wd D) k) % 1000000000:=(sumW_wd M D k).symm
 have h2:=wd_lt M k
 have h3:=wd_lt D k
 have h4:=carry_le (wd M) (wd D) (wd_lt M) (wd_lt D) k
 unfold subW
 rw[borrow_wd,h1]
 omega
def sgn(a b:Nat):Int:=if a<b then -1 else if b<a then 1 else 0
theorem cmpW_wd(N M k:Nat):cmpW (wd N) (wd M) k=sgn (N % B9 ^ k) (M % B9 ^ k):=by
 induction k with
 |zero=>simp[cmpW,sgn,Nat.mod_one]
 | succ k ih =>
  rw[cmpW,ih,mod_succ,mod_succ]
  have h1:=Nat.mod_lt N (B9_pow k)
  have h2:=Nat.mod_lt M (B9_pow k)
  generalize N % B9 ^ k=n at *
  generalize M % B9 ^ k=m at *
  generalize wd N k=a
  generalize wd M k=b
  generalize B9 ^ k=B at *
  unfold sgn
  by_cases h3:a<b
  ·have:B * (a+1)≤B * b:=Nat.mul_le_mul_left B h3
   rw[Nat.mul_succ]at this
   rw[if_pos h3,if_pos (by omega)]
  ·by_cases h4:b<a
   ·have:B * (b+1)≤B * a:=Nat.mul_le_mul_left B h4
    rw[Nat.mul_succ]at this
    rw[if_neg h3,if_pos h4,if_neg (by omega),if_pos (by omega)]
   ·obtain rfl:a=b:=by omega
    rw[if_neg h3,if_neg h4]
    simp only[Nat.add_lt_add_iff_right]
def vs(o:Nat→Nat):Nat→Nat
 |0=>0
 |n+1=>vs o n+o n * B9 ^ n
theorem vs_wd(N k:Nat):vs (wd N) k=N % B9 ^ k:=by
 induction k with
 |zero=>simp[vs,Nat.mod_one]
 |succ k ih=>rw[vs,ih,mod_succ,Nat.mul_comm]
theorem pow9(k:Nat):B9 ^ k=10 ^ (9 * k):=by rw[Nat.pow_mul];rfl
theorem EnvD.drew{w:World}(h:EnvD w):EnvD w.drew:=h.drewN 1
theorem parseM_ok(M acc:Nat)(l:List UInt8)(hd:allD l=true)(hb:(acc+1) * 10 ^ l.length≤1000000000)(hM:1000000000≤M):Lib.parseUintM M acc l=.ok (acc * 10 ^ l.length+val l):=by
 induction l generalizing acc with
 |nil=>simp[Lib.parseUintM,val]
 |cons c l ih=>
  rw[allD_cons,Bool.and_eq_true]at hd
  have hc:=hd.1
  unfold isD at hc
  simp only[decide_eq_true_eq]at hc
  have hv:dv c=c.toNat-48:=rfl
  have hp:1≤10 ^ l.length:=Nat.pow_pos (by decide)
  rw[List.length_cons,Nat.pow_succ]at hb
  have hb2:(acc+1) * 10 * 10 ^ l.length≤1000000000:=by rw[Nat.mul_assoc,Nat.mul_comm 10];exact hb
  have h9:dv c≤9:=by omega
  have hb3:(acc * 10+dv c+1) * 10 ^ l.length≤1000000000:=Nat.le_trans (Nat.mul_le_mul_right _ (by omega)) hb2
  have hb4:acc * 10+dv c+1≤1000000000:=Nat.le_trans (Nat.le_mul_of_pos_right _ hp) hb3
  rw[Lib.parseUintM,if_pos hc,if_neg (by omega),if_neg (by omega),←hv,ih _ hd.2 hb3,val_cons,List.length_cons,Nat.pow_succ]
  congr 1
  rw[Nat.add_mul,Nat.mul_assoc,Nat.mul_comm 10,Nat.add_assoc]
theorem parse_ok(l:List UInt8)(hd:allD l=true)(h0:l≠[])(h9:l.length≤9):Lib.parseUintB 64 l=.ok (val l):=by
 unfold Lib.parseUintB
 rw[if_neg h0,parseM_ok _ 0 l hd (by
  have:10 ^ l.length≤10 ^ 9:=Nat.pow_le_pow_right (by decide) h9
  omega) (by decide),Nat.zero_mul,Nat.zero_add]
def wdTo(N i:Nat):Nat→Nat:=fun j=>if j<i then wd N j else 0
theorem wdTo_upd(N i:Nat):upd (wdTo N i) i (wd N i)=wdTo N (i+1):=by
 funext j
 unfold upd wdTo
 by_cases h:j=i
 ·subst h;rw[if_pos rfl,if_pos (by omega)]
 ·rw[if_neg h]
  by_cases h2:j<i
  ·rw[if_pos h2,if_pos (by omega)]
  ·rw[if_neg h2,if_neg (by omega)]
theorem wdTo_all(N i:Nat)(h:N<B9 ^ i):wdTo N i=wd N:=by
 funext j
 unfold wdTo
 by_cases hj:j<i
 ·rw[if_pos hj]
 ·rw[if_neg hj]
  unfold wd
  rw[Nat.div_eq_of_lt (Nat.lt_of_lt_of_le h (Nat.pow_le_pow_right B9_pos (by omega)))];rfl
theorem chunk(l:List UInt8)(hd:allD l=true)(i:Nat)(h:9 * i<l.length):val ((l.take (l.length-9 * i)).drop (l.length-9 * i-9))=wd (val l) i:=by
 have e1:val l / B9 ^ i=val (l.take (l.length-9 * i)):=by
  have h1:val l=val (l.take (l.length-9 * i)) * 10 ^ (9 * i)+val (l.drop (l.length-9 * i)):=by
   conv=>lhs;rw[←List.take_append_drop (l.length-9 * i) l]
   rw[val_append,List.length_drop]
   congr 3
   omega
  have h2:val (l.drop (l.length-9 * i))<10 ^ (9 * i):=by
   have:=val_lt (allD_drop (l.length-9 * i) hd)
   rwa [List.length_drop,show l.length-(l.length-9 * i)=9 * i by omega]at this
  rw[pow9,h1,Nat.add_comm,Nat.add_mul_div_right _ _ (Nat.pow_pos (by decide)),Nat.div_eq_of_lt h2,Nat.zero_add]
 unfold wd
 rw[e1]
 have hd2:=allD_take (l.length-9 * i) hd
 have hl2:(l.take (l.length-9 * i)).length=l.length-9 * i:=by rw[List.length_take];omega
 generalize l.take (l.length-9 * i)=t at *
 rw[←hl2]
 generalize ht:t.length=n at *
 have h1:val t=val (t.take (n-9)) * 10 ^ (n-(n-9))+val (t.drop (n-9)):=by
  conv=>lhs;rw[←List.take_append_drop (n-9) t]
  rw[val_append,List.length_drop,ht]
 have h2:val (t.drop (n-9))<10 ^ (n-(n-9)):=by
  have:=val_lt (allD_drop (n-9) hd2)
  rwa [List.length_drop,ht]at this
 by_cases h9:n≤9
 ·have h3:n-9=0:=by omega
  rw[h3]at h1 h2 ⊢
  rw[List.drop_zero]at h2 ⊢
  rw[Nat.mod_eq_of_lt]
  refine Nat.lt_of_lt_of_le h2 ?_
  exact Nat.pow_le_pow_right (n:=10) (by decide) (show n-0≤9 by omega)
 ·rw[show n-(n-9)=9 by omega]at h1 h2
  rw[h1,Nat.add_comm,show(10:Nat) ^ 9=B9 from rfl,Nat.add_mul_mod_self_right]
  exact(Nat.mod_eq_of_lt h2).symm
def WoW(w:World)(N i:Nat)(W:World):Prop:=Below w.heap.size w W∧Blk W w.heap.size (wv fun _=>0) 179∧Blk W (w.heap.size+1) (wv (wdTo N i)) 179
theorem WoW.below{w W W':World}{N i:Nat}(h:WoW w N i W)(hb:Below W.heap.size W W'):WoW w N i W':=
 ⟨h.1.trans (hb.mono h.1.size),(hb.block _ h.2.1.lt).trans h.2.1,(hb.block _ h.2.2.lt).trans h.2.2⟩
theorem WoW.put{w W:World}{N i:Nat}(h:WoW w N i W)(hi:i<16):WoW w N (i+1) (W.setCell ⟨w.heap.size+1,i,none⟩ (.int .u64 (wd N i:Nat))):=by
 refine⟨h.1.setCell (by simp) _,h.2.1.set_other _ (by simp) _,?_⟩
 have:=h.2.2.set i (.int .u64 (wd N i:Nat))
 rwa [wv_upd _ _ _ hi,wdTo_upd]at this
theorem wordsOf_any(s:ByteArray)(w:World)(hd:allD s.data.toList=true)(hs:s.size≤144):
 Calls Tryz.prog 178 #[.string s] w fun e w'=>e=.returned (.agg (wv (wd (val s.data.toList))))∧Below w.heap.size w w':=by
 have hlen:s.data.toList.length=s.size:=rfl
 replace hlen:=Hd hlen
 replace hd:=Hd hd
 go_enter Tryz.func178,Tryz.ntmps178
 go_wp2
 have hz:=wv_zero
 rw[←hz];clear hz
 obtain⟨W,hW⟩:∃W,(w.alloc (.cells (wv fun _=>0) 179)).alloc (.cells (wv fun _=>0) 179)=W:=⟨_,rfl⟩
 have dw:WoW w (val s.data.toList) 0 W:=by
  rw[←hW]
  refine⟨((Below.refl _ _).alloc (Nat.le_refl _) _).alloc (by simp) _,(Blk.new _ _ _).alloc _,?_⟩
  have:=Blk.new (w.alloc (.cells (wv fun _=>0) 179)) (wv fun _=>0) 179
  rwa [World.size_alloc]at this
 rw[hW]
 clear hW
 go_loopw [0,4] (fun vs vi wr=>∃(i:Nat) (t:ByteArray),vs=.string t∧vi=.int .i64 i∧Hid (t.data.toList=s.data.toList.take (s.size-9 * i))∧i≤16∧t.size=s.size-9 * i∧WoW w (val s.data.toList) i wr) (fun _ vi _=>17-(intOf vi).toNat)
 case atStart=>exact⟨0,s,rfl,rfl,by show _=_;rw[List.take_of_length_le];rw[hlen.out];omega,by omega,by omega,dw⟩
 case round=>
  clear dw
  obtain⟨i,t,rfl,rfl,ht,hi,hts,dw⟩:=hrel
  by_cases h0:t.size=0
  ·have hall:wdTo (val s.data.toList) i=wd (val s.data.toList):=by
    refine wdTo_all _ _ ?_
    rw[pow9]
    exact Nat.lt_of_lt_of_le (val_lt hd.out) (Nat.pow_le_pow_right (by decide) (by rw[hlen.out];omega))
   obtain⟨d1,d2,d3⟩:=dw
   rw[hall]at d3
   replace d1:=Hd d1
   replace d2:=Hd d2
   replace d3:=Hd d3
   have h0i:¬((0:Int)<(t.size:Int)):=by omega
   clear hts hall h0
   go_wp2_with (first
    |(with_reducible refine wpList_load_row rfl 179 _ rfl (w.heap.size+1) rfl 179 _ (0,0) _ d3.out.eq Tryz.underlying179 rfl (by rw[wv_size];exact Tryz.infoW) ?_)
    |(with_reducible refine wpList_store_row rfl 179 _ _ rfl w.heap.size _ rfl rfl 179 _ d2.out.eq (by rw[wv_size];exact Tryz.infoW) (by rw[wv_size,wv_size]) (wv_one _) ?_))
   exact bodyPost_ret (v:=.agg (wv (wd (val s.data.toList)))) (results_cell_row rfl _ _ w.heap.size 179 _ (0,0) _ rfl d2.out.setRow.eq Tryz.underlying179 rfl (by rw[wv_size];exact Tryz.infoW)) rfl
    ⟨rfl,((Keep.ofBelow d1.out).setRow (by omega) _).below⟩
  ·have hi16:i<16:=by omega
   have hck:=chunk s.data.toList hd.out i (by rw[hlen.out];omega)
   rw[hlen.out,←ht.out]at hck
   have hdt:allD t.data.toList=true:=by rw[ht.out];exact allD_take _ hd.out
   have h0i:(0:Int)<(t.size:Int):=by omega
   replace hts:=Hd hts
   replace dw:=Hd dw
   replace hck:=Hd hck
   replace hdt:=Hd hdt
   have h144:(t.size:Int)≤144:=by have:=hts.out;omega
   have hmx:max ((t.size:Int)-9) 0=((t.size-9:Nat):Int):=by omega
   have hmn:((t.size-9:Nat):Int)≤(t.size:Int):=by omega
   have hpd:Lib.parseUintB 64 (t.extract (t.size-9) t.size).data.toList=.ok (wd (val s.data.toList) i):=by
    have hx:(t.extract (t.size-9) t.size).data.toList=t.data.toList.drop (t.size-9):=by
     rw[Lib.extract_data,List.take_of_length_le]
     rw[List.length_drop];exact Nat.le_refl _
    have htl:t.data.toList.length=t.size:=rfl
    rw[hx,parse_ok _ (allD_drop _ hdt.out) (fun e=>by
     have:=congrArg List.length e
     rw[List.length_drop,htl]at this;simp at this;omega) (by rw[List.length_drop,htl];omega),hts.out,hck.out]
   have htk:(t.extract 0 (t.size-9)).data.toList=s.data.toList.take (s.size-9 * (i+1)):=by
    rw[Lib.extract_data,List.drop_zero,Nat.sub_zero,hts.out,ht.out,List.take_take]
    congr 1;omega
   have hfz:=dw.out.2.2.free i
   have hbi:dw.out.2.2.lt=dw.out.2.2.lt:=rfl
   replace hpd:=Hd hpd
   replace htk:=Hd htk
   clear hbi h0 ht
   go_wp2_with fail
   refine(Tryz.strconv_ParseUint_10_at64_ok _ (by simp;omega) _ hpd.out _).mono ?_
   rintro e w1 ⟨rfl,hw1⟩
   have hb1:Below wr.heap.size wr w1:=by
    rcases hw1 with h|h
    ·rw[h];exact Below.refl _ _
    ·rw[h];exact Lib.bytesWorld_below _ _ _
   clear hw1
   have dw1:=dw.out.below hb1
   have hc1:w1.cell? ⟨w.heap.size+1,i,none⟩=some (.int .u64 (wdTo (val s.data.toList) i i:Nat)):=dw1.2.2.cell _ (wv_get _ i hi16)
   have hf1:=dw1.2.2.free i
   replace dw1:=Hd dw1
   clear hfz hb1
   go_wp2
   go_roundw
   case rel=>
    refine⟨i+1,t.extract 0 (t.size-9),rfl,by go_num,htk,by omega,?_,dw1.out.put hi16⟩
    have:=hts.out
    simp;omega
   case measure=>simp[intOf];omega
end Go.Proofs.YtcaeipdgbaligaaGreatDoor.dec
