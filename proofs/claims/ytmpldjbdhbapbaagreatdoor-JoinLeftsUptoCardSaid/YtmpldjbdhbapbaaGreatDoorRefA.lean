/- Texts DecInfo, DecZ, RefNum, RefPlain, RefCmpP, RefBytes, RefInts, one behind the other. -/
import Derived.Test.YtmpldjbdhbapbaaGreatDoorDecA
import Derived.Deep.DeepCutAuto
set_option linter.unusedSimpArgs false
set_option linter.unusedVariables false
set_option maxRecDepth 100000
namespace Go.Proofs.YtmpldjbdhbapbaaGreatDoor.dec
open Go.ChangeShapes Go.WideShapes Go.ChangeAt Go.RowKit kit
theorem infoByte:(Tryz.prog.info? 5).map (fun i=>(i.zero,i.size,i.bytes))=some (some (.int .u8 0),1,1):=by kernel_rfl
theorem res2{P:Program}{fn:Func}{p u:Tmp}{ty:TypeId}(h:fn.results=#[.cell p ty,.tmp u])(tmps:Array Value)(w:World)(g:Nat)(t:TypeId)(cs:Array Value)(fr:Nat×Nat)(d:TypeDesc)(v:Value)(hv:tmps.getD u undef=v)
 (hp:tmps.getD p undef=.pointer (some ⟨g,0,none⟩))(hg:w.heap[g]? = some (.cells cs t fr))
 (hu:P.underlying ty=some d)(hd:(match d with|.struct _|.array _ _=>true|_=>false)=true)(hi:(P.info? ty).map (·.size)=some cs.size):
 (results fn tmps).run P w=.ok (.tuple #[.agg cs,v]) w:=by
 subst hv
 rw[results_cell_tmp h,hp]
 simp only[asAddr,Sem.run_pure,Result.andThen_ok,run_loadVar_row w g t ty cs fr d hg hu hd hi]
theorem infoNum:(Tryz.prog.info? 181).map (·.size)=some 3:=by kernel_rfl
def numc(s:Bool)(v:Value)(sc:Nat):Array Value:=#[.bool s,v,.int .i64 sc]
theorem infoInt:(Tryz.prog.info? 3).map (fun i=>(i.zero,i.size,i.bytes))=some (some (.int .i64 0),1,8):=by kernel_rfl
def vL:List Nat→Nat
 |[]=>0
 |d::r=>d+10 * vL r
def dgs(D:List Nat):Prop:=∀d∈D,d<10
theorem dgs.tail{d:Nat}{r:List Nat}(h:dgs (d::r)):dgs r:=fun x hx=>h x (by simp[hx])
theorem dgs.head{d:Nat}{r:List Nat}(h:dgs (d::r)):d<10:=h d (by simp)
theorem vL_lt{D:List Nat}(h:dgs D):vL D<10 ^ D.length:=by
 induction D with
 |nil=>simp[vL]
 |cons d r ih=>
  have:=ih h.tail
  have:=h.head
  rw[vL,List.length_cons,Nat.pow_succ];omega
theorem vL_get{D:List Nat}(h:dgs D)(i:Nat):vL D / 10 ^ i % 10=D.getD i 0:=by
 induction D generalizing i with
 |nil=>simp[vL]
 | cons d r ih =>
  have hd:=h.head
  cases i with
  |zero=>simp[vL];omega
  |succ i=>
   rw[vL,Nat.pow_succ,Nat.mul_comm (10 ^ i) 10,←Nat.div_div_eq_div_mul,show(d+10 * vL r) / 10=vL r by omega,ih h.tail]
   simp
theorem vL_append(D E:List Nat):vL (D++E)=vL D+10 ^ D.length * vL E:=by
 induction D with
 |nil=>simp[vL]
 |cons d r ih=>rw[List.cons_append,vL,vL,ih,List.length_cons,Nat.pow_succ,Nat.mul_add,Nat.mul_comm (10 ^ r.length) 10,Nat.mul_assoc];omega
theorem vL_zero{D:List Nat}:vL D=0↔∀d∈D,d=0:=by
 induction D with
 |nil=>simp[vL]
 |cons d r ih=>rw[vL];simp only[List.mem_cons,forall_eq_or_imp,←ih];omega
theorem dgs_getD{D:List Nat}(h:dgs D)(i:Nat):D.getD i 0<10:=by
 rw[←vL_get h];exact Nat.mod_lt _ (by decide)
def IntsAt(w:World)(v:Value)(D:List Nat):Prop:=
 (v=.slice none 0 0∧D=[])∨∃b off cap,v=.slice (some ⟨b,off,none⟩) D.length cap∧b<w.heap.size∧∀j,j<D.length→w.cell? ⟨b,off+j,none⟩=some (.int .i64 (D.getD j 0:Nat))
theorem IntsAt.below{w w':World}{v:Value}{D:List Nat}(h:IntsAt w v D)(hb:Below w.heap.size w w'):IntsAt w' v D:=by
 rcases h with h|⟨b,off,cap,hv,hlt,hc⟩
 ·exact .inl h
 ·exact .inr ⟨b,off,cap,hv,Nat.lt_of_lt_of_le hlt hb.size,fun j hj=>(hb.cell (p:=⟨b,off+j,none⟩) hlt).trans (hc j hj)⟩
def atL(D:List Nat)(i:Int):Nat:=if i<0 then 0 else D.getD i.toNat 0
theorem atL_nat(D:List Nat)(i:Nat):atL D (i:Int)=D.getD i 0:=by unfold atL;rw[if_neg (by omega)];simp
theorem digit_any(c:Nat)(w:World)(hc:c<256):Calls Tryz.prog 156 #[.int .u8 (c:Nat)] w fun e w'=>e=.returned (.bool (decide (48≤c∧c≤57)))∧w'=w:=by
 by_cases h1:48≤c
 ·by_cases h2:c≤57
  ·have a1:(48:Int)≤(c:Int):=by omega
   have a2:(c:Int)≤57:=by omega
   rw[decide_eq_true ⟨h1,h2⟩]
   clear h1 h2
   go_enter Tryz.func156,Tryz.ntmps156
   go_wp2
   go_ret
   exact⟨rfl,rfl⟩
  ·have a1:(48:Int)≤(c:Int):=by omega
   have a2:¬((c:Int)≤57):=by omega
   rw[decide_eq_false (by omega)]
   clear h1 h2
   go_enter Tryz.func156,Tryz.ntmps156
   go_wp2
   go_ret
   exact⟨rfl,rfl⟩
 ·have a1:¬((48:Int)≤(c:Int)):=by omega
  rw[decide_eq_false (by omega)]
  clear h1
  go_enter Tryz.func156,Tryz.ntmps156
  go_wp2
  go_ret
  exact⟨rfl,rfl⟩
theorem at_any(v:Value)(D:List Nat)(i:Int)(w:World)(h:IntsAt w v D)(hl:D.length≤1000000000)(h0:-1000000000≤i)(h1:i≤1000000000):
 Calls Tryz.prog 157 #[v,.int .i64 i] w fun e w'=>e=.returned (.int .i64 (atL D i:Nat))∧w'=w:=by
 by_cases hn:i<0
 ·have e:atL D i=0:=by unfold atL;rw[if_pos hn]
  rw[e]
  rcases h with⟨rfl,rfl⟩|⟨b,off,cap,rfl,hlt,hc⟩
  ·go_enter Tryz.func157,Tryz.ntmps157
   go_wp2
   go_ret
   exact⟨rfl,rfl⟩
  ·clear hc
   go_enter Tryz.func157,Tryz.ntmps157
   go_wp2
   go_ret
   exact⟨rfl,rfl⟩
 ·obtain⟨k,rfl⟩:∃k:Nat,i=k:=⟨i.toNat,by omega⟩
  rw[atL_nat]
  rcases h with⟨rfl,rfl⟩|⟨b,off,cap,rfl,hlt,hc⟩
  ·have hk:(0:Int)≤(k:Int):=by omega
   have e:([]:List Nat).getD k 0=0:=by simp
   rw[e]
   go_enter Tryz.func157,Tryz.ntmps157
   go_wp2
   go_ret
   exact⟨rfl,rfl⟩
  ·by_cases hk:k<D.length
   ·have hcell:=hc k hk
    have hki:(k:Int)<(D.length:Int):=by omega
    generalize D.getD k 0=d at *
    clear hc
    go_enter Tryz.func157,Tryz.ntmps157
    go_wp2
    go_ret
    exact⟨rfl,rfl⟩
   ·have hki:(D.length:Int)≤(k:Int):=by omega
    have e:D.getD k 0=0:=by rw[List.getD_eq_getElem?_getD,List.getElem?_eq_none (by omega)];rfl
    rw[e]
    clear hc
    go_enter Tryz.func157,Tryz.ntmps157
    go_wp2
    go_ret
    exact⟨rfl,rfl⟩
theorem zero_any(v:Value)(D:List Nat)(w:World)(h:IntsAt w v D)(hl:D.length≤1000000000):
 Calls Tryz.prog 158 #[v] w fun e w'=>e=.returned (.bool (decide (vL D=0)))∧w'=w:=by
 rcases h with⟨rfl,rfl⟩|⟨b,off,cap,rfl,hlt,hc⟩
 ·have e:decide (vL []=0)=true:=by decide
  rw[e]
  go_enter Tryz.func158,Tryz.ntmps158
  go_wp2
  refine wp_loop_rounds 1 ?_;rw[rounds_succ]
  go_wp2
  go_ret
  exact⟨rfl,rfl⟩
 ·replace hc:=Hd hc
  go_enter Tryz.func158,Tryz.ntmps158
  go_wp2
  go_loop [3] (fun i=>∃k:Nat,k≤D.length∧i=.int .i64 k∧Hid (∀j,j<k→D.getD j 0=0)) (fun i=>D.length-(intOf i).toNat)
  case atStart=>exact⟨0,by omega,rfl,fun j hj=>by omega⟩
  case round=>
   obtain⟨k,hk,rfl,hz⟩:=hrel
   by_cases hlt:k<D.length
   ·have hcell:=hc.out k hlt
    have hki:(k:Int)<(D.length:Int):=by omega
    by_cases h0:D.getD k 0=0
    ·rw[h0]at hcell
     replace h0:=Hd h0
     go_wp2
     go_round
     case rel=>
      refine⟨k+1,by omega,by go_num,fun j hj=>?_⟩
      rcases Nat.lt_or_ge j k with e|e
      ·exact hz.out j e
      ·rw[show j=k by omega];exact h0.out
     case measure=>simp[intOf];omega
    ·have hne:decide (vL D=0)=false:=by
      apply decide_eq_false
      intro hv
      have:=vL_zero.1 hv (D.getD k 0) (by rw[List.getD_eq_getElem?_getD,List.getElem?_eq_getElem hlt];exact List.getElem_mem hlt)
      exact h0 this
     replace hne:=Hd hne
     have h1:(((D.getD k 0:Nat):Int) != 0)=true:=bne_iff_ne.2 (by omega)
     generalize D.getD k 0=d at *
     clear h0
     go_wp2
     go_ret
     exact⟨ret_bool hne.out.symm,rfl⟩
   ·have hki:¬((k:Int)<(D.length:Int)):=by omega
    have hv:decide (vL D=0)=true:=by
     apply decide_eq_true
     apply vL_zero.2
     intro d hd
     obtain⟨j,hj,rfl⟩:=List.getElem_of_mem hd
     have:=hz.out j (by omega)
     rwa [List.getD_eq_getElem?_getD,List.getElem?_eq_getElem hj]at this
    replace hv:=Hd hv
    go_wp2
    go_ret
    exact⟨ret_bool hv.out.symm,rfl⟩
theorem vL_lt_of{D:List Nat}(hD:dgs D)(h:Nat)(hz:∀j,h≤j→D.getD j 0=0):vL D<10 ^ h:=by
 have key:∀j,h≤j→vL D / 10 ^ j=0:=by
  have hlen:=vL_lt hD
  intro j
  by_cases hj:D.length≤j
  ·intro _
   exact Nat.div_eq_of_lt (Nat.lt_of_lt_of_le hlen (Nat.pow_le_pow_right (by decide) hj))
  ·obtain⟨k,hk⟩:∃k,D.length=j+k:=⟨D.length-j,by omega⟩
   clear hj
   induction k generalizing j with
   |zero=>intro _;exact Nat.div_eq_of_lt (by rw[hk]at hlen;exact hlen)
   |succ k ih=>
    intro hj
    have h1:=ih (j+1) (by omega) (by omega)
    have h2:=vL_get hD j
    rw[hz j hj]at h2
    rw[Nat.pow_succ,←Nat.div_div_eq_div_mul]at h1
    omega
 have:=key h (Nat.le_refl _)
 have hp:0<10 ^ h:=Nat.pow_pos (by decide)
 exact(Nat.div_eq_zero_iff_lt hp).1 this
theorem vL_ge_of{D:List Nat}(hD:dgs D)(h:Nat)(hz:D.getD h 0≠0):10 ^ h≤vL D:=by
 apply Classical.byContradiction
 intro hc
 have h2:=vL_get hD h
 rw[Nat.div_eq_of_lt (by omega)]at h2
 omega
theorem vL_dvd_of{D:List Nat}(hD:dgs D)(l:Nat)(hz:∀j,j<l→D.getD j 0=0):vL D % 10 ^ l=0:=by
 induction l with
 |zero=>simp[Nat.mod_one]
 |succ l ih=>
  have h1:=ih (fun j hj=>hz j (by omega))
  have h2:=vL_get hD l
  rw[hz l (by omega)]at h2
  rw[Nat.pow_succ,Nat.mod_mul,h1,h2];omega
theorem whole_pad(q m:Nat)(hm:1≤m)(hq:q<10 ^ m)(hg:m=1∨10 ^ (m-1)≤q):pad m q=orZero (digs q)∧(m≤40↔(digs q).length≤40):=by
 by_cases h0:q=0
 ·subst h0
  have hm1:m=1:=by
   rcases hg with h|h
   ·exact h
   ·have:0<10 ^ (m-1):=Nat.pow_pos (by decide)
    omega
  subst hm1
  exact⟨rfl,by simp[digs]⟩
 ·have hlen:(digs q).length=m:=by
   have h1:=(digs_lt q m).2 hq
   have h2:¬(digs q).length≤m-1:=by
    intro h
    have h3:=(digs_lt q (m-1)).1 h
    rcases hg with h4|h4
    ·subst h4;simp at h3;omega
    ·omega
   omega
  have ht:trimL (pad m q)=digs q:=by rw[trimL_eq (pad_allD _ _),pad_val,Nat.mod_eq_of_lt hq]
  have hd:(trimL (pad m q)).length=(pad m q).length:=by rw[ht,hlen,pad_length]
  have hsuf:trimL (pad m q)=pad m q:=(List.dropWhile_suffix (p:=fun x=>x==48) (l:=pad m q)).eq_of_length hd
  refine⟨?_,by rw[hlen]⟩
  rw[←hsuf,ht]
  unfold orZero
  rw[if_neg (fun e=>h0 (digs_nil.1 e))]
theorem part_pad(N sc low:Nat)(hl:low≤sc)(hz:N % 10 ^ low=0)(hg:low=sc∨N / 10 ^ low % 10≠0):
 orZero (frac sc N)=(if low=sc then[48] else pad (sc-low) (N / 10 ^ low))∧(frac sc N).length=sc-low:=by
 obtain⟨k,rfl⟩:∃k,sc=k+low:=⟨sc-low,by omega⟩
 have hN:N=N / 10 ^ low * 10 ^ low:=by
  have:=Nat.div_add_mod N (10 ^ low)
  rw[hz,Nat.mul_comm]at this;omega
 have hf:frac (k+low) N=frac k (N / 10 ^ low):=by
  conv=>lhs;rw[hN]
  exact frac_more k low _
 rw[hf,Nat.add_sub_cancel]
 cases k with
 |zero=>rw[Nat.zero_add,if_pos rfl,frac_zero];exact⟨rfl,rfl⟩
 |succ k=>
  have hne:N / 10 ^ low % 10≠0:=by rcases hg with h|h<;>omega
  rw[if_neg (by omega),frac_step,if_neg hne]
  refine⟨?_,pad_length _ _⟩
  unfold orZero
  rw[if_neg (by intro e;have:=congrArg List.length e;rw[pad_length]at this;simp at this)]
theorem form_told(neg:Bool)(N sc high low:Nat)(h1:sc+1≤high)(h2:N<10 ^ high)(h3:high=sc+1∨10 ^ (high-1)≤N)(h4:low≤sc)(h5:N % 10 ^ low=0)(h6:low=sc∨N / 10 ^ low % 10≠0):
 toldP neg N sc=if 40<high-sc∨20<sc-low then([],2) else
  ((if neg&&decide (N≠0) then[45] else[])++pad (high-sc) (N / 10 ^ sc)++[46]++(if low=sc then[48] else pad (sc-low) (N / 10 ^ low)),0):=by
 have hp:0<10 ^ sc:=Nat.pow_pos (by decide)
 have hq:N / 10 ^ sc<10 ^ (high-sc):=by
  rw[Nat.div_lt_iff_lt_mul hp,←Nat.pow_add,show high-sc+sc=high by omega];exact h2
 have hg:high-sc=1∨10 ^ (high-sc-1)≤N / 10 ^ sc:=by
  rcases h3 with h|h
  ·exact .inl (by omega)
  ·right
   rw[Nat.le_div_iff_mul_le hp,←Nat.pow_add,show high-sc-1+sc=high-1 by omega];exact h
 obtain⟨w1,w2⟩:=whole_pad (N / 10 ^ sc) (high-sc) (by omega) hq hg
 obtain⟨p1,p2⟩:=part_pad N sc low h4 h5 h6
 unfold toldP told
 rw[p2]
 by_cases hc:40<high-sc∨20<sc-low
 ·rw[if_pos hc,if_pos (by omega)]
 ·rw[if_neg hc,if_neg (by omega),w1,←p1,fmt_eq]
  simp
theorem IntsAt.form{w:World}{v:Value}{D:List Nat}(h:IntsAt w v D):∃ao cap,v=.slice ao D.length cap:=by
 rcases h with⟨rfl,rfl⟩|⟨b,off,cap,rfl,_⟩
 ·exact⟨none,0,rfl⟩
 ·exact⟨_,_,rfl⟩
def bytesV(l:List UInt8):List Value:=l.map fun b=>.int .u8 (b.toNat:Int)
structure BW(W:World)(B:Nat)(v:Value)(l:List UInt8)(W1:World):Prop where
 below:Below B W W1
 own:W1.ownsRow B 5 1 v l.length (bytesV l)
theorem BW.start(W:World):BW W W.heap.size (.slice none 0 0) [] W:=⟨Below.refl _ _,World.ownsRow_nil _ _ _ _⟩
theorem BW.step{W W1 w':World}{B:Nat}{v v':Value}{l:List UInt8}(h:BW W B v l W1)(hB:B≤W1.heap.size)(o:Obj)(x:UInt8)
 (h1:w'.ownsRow B 5 1 v' (l.length+1) (bytesV l++[.int .u8 (x.toNat:Int)]))(h2:(W1.alloc o).grownBy w' v.ownBlock):BW W B v' (l++[x]) w':=by
 refine⟨(h.below.alloc hB _).grown h2 (by rw[World.size_alloc];omega) (fun k hk=>(h.own.lt k hk).1),?_⟩
 rw[List.length_append]
 simpa[bytesV]using h1
theorem BW.cells{W W1:World}{B g n cap:Nat}{l:List UInt8}(h:BW W B (.slice (some ⟨g,0,none⟩) n cap) l W1):∀j (hj:j<l.length),W1.cell? ((⟨g,0,none⟩:Addr).add j)=some (.int .u8 (l[j].toNat:Int)):=fun j hj=>
 h.own.cells rfl j _ (by simp[bytesV,List.getElem?_eq_getElem hj])
def intsV(l:List Nat):List Value:=l.map fun(d:Nat)=>.int .i64 (d:Int)
structure IW(W:World)(B:Nat)(v:Value)(l:List Nat)(W1:World):Prop where
 below:Below B W W1
 own:W1.ownsRow B 3 1 v l.length (intsV l)
theorem IW.start(W:World)(B:Nat):IW W B (.slice none 0 0) [] W:=⟨Below.refl _ _,World.ownsRow_nil _ _ _ _⟩
theorem IW.grown{W W1 w':World}{B:Nat}{v v':Value}{l m:List Nat}(h:IW W B v l W1)(hB:B≤W1.heap.size)(o:Obj)
 (h1:w'.ownsRow B 3 1 v' (l.length+m.length) (intsV l++intsV m))(h2:(W1.alloc o).grownBy w' v.ownBlock):IW W B v' (l++m) w':=by
 refine⟨(h.below.alloc hB _).grown h2 (by rw[World.size_alloc];omega) (fun k hk=>(h.own.lt k hk).1),?_⟩
 rw[List.length_append]
 simpa[intsV]using h1
theorem IW.step{W W1 w':World}{B:Nat}{v v':Value}{l:List Nat}(h:IW W B v l W1)(hB:B≤W1.heap.size)(o:Obj)(x:Nat)
 (h1:w'.ownsRow B 3 1 v' (l.length+1) (intsV l++[.int .i64 (x:Int)]))(h2:(W1.alloc o).grownBy w' v.ownBlock):IW W B v' (l++[x]) w':=
 h.grown hB o (m:=[x]) h1 h2
theorem own_ints{W1:World}{B:Nat}{v:Value}{l:List Nat}(h:W1.ownsRow B 3 1 v l.length (intsV l)):IntsAt W1 v l:=by
 rcases h.2 with⟨hv,hn⟩|⟨g,cap,cur,hv,hg,hh,_⟩
 ·exact .inl ⟨hv,List.eq_nil_of_length_eq_zero hn⟩
 ·subst hv
  refine .inr ⟨g,0,cap,rfl,(Array.getElem?_eq_some_iff.1 hh).1,fun j hj=>?_⟩
  rw[Nat.zero_add,h.cellAt j (by omega)]
  simp[intsV,List.getD_eq_getElem?_getD,List.getElem?_eq_getElem hj]
theorem grown_set(w:World)(k i:Nat)(u:Value):w.grownBy (w.setCell ⟨k,i,none⟩ u) (some k):=
 ⟨rfl,rfl,rfl,by simp,fun j _ hj=>heap_setCell_other w ⟨k,i,none⟩ j u (fun e=>hj (by simp[e]))⟩
theorem own_set{W1:World}{B k:Nat}{v:Value}{l:List Nat}(h:W1.ownsRow B 3 1 v l.length (intsV l))(hk:k<B)(i:Nat)(u:Value):(W1.setCell ⟨k,i,none⟩ u).ownsRow B 3 1 v l.length (intsV l):=by
 refine h.kept (grown_set W1 k i u) ?_
 by_cases hv:v.ownBlock=some k
 ·have:=(h.lt k hv).1;omega
 ·exact .inr hv
theorem IntsAt.news{w:World}{b off cap:Nat}{D:List Nat}(hc:∀j,j<D.length→w.cell? ⟨b,off+j,none⟩=some (.int .i64 (D.getD j 0:Nat))):
 ∀j u,(intsV D)[j]? = some u→w.cell? ((⟨b,off,none⟩:Addr).add j)=some u:=by
 intro j u hu
 have hj:j<D.length:=by
  have:=List.getElem?_eq_some_iff.1 hu
  obtain⟨h,_⟩:=this
  simpa[intsV]using h
 have hadd:(⟨b,off,none⟩:Addr).add j=⟨b,off+j,none⟩:=by unfold Addr.add;split<;>simp_all
 rw[hadd,hc j hj]
 simpa[intsV,List.getD_eq_getElem?_getD,List.getElem?_eq_getElem hj]using hu
theorem BW.conv{W W1:World}{B:Nat}{v:Value}{l:List UInt8}(h:BW W B v l W1)(hl:0<l.length):
 ∃g cap,v=.slice (some ⟨g,0,none⟩) l.length cap∧(convert 108 9 (.slice (some ⟨g,0,none⟩) l.length cap)).run Tryz.prog W1=.ok (.string ⟨l.toArray⟩) W1:=by
 rcases h.own.2 with⟨hv,hn⟩|⟨g,cap,cur,hv,hg,hh,_⟩
 ·omega
 ·subst hv
  exact⟨g,cap,rfl,run_convert_bytes_back W1 108 9 5 ⟨g,0,none⟩ cap l Tryz.underlying108 Tryz.underlying5 Tryz.underlying9 h.cells⟩
theorem news_one(w:World)(x:Value)(t:TypeId):∀j u,[x][j]? = some u→(w.alloc (.cells #[x] t)).cell? ((⟨w.heap.size,0,none⟩:Addr).add j)=some u:=by
 intro j u hu
 match j,hu with
 |0,hu=>
  have hadd:(⟨w.heap.size,0,none⟩:Addr).add 0=⟨w.heap.size,0,none⟩:=rfl
  rw[hadd,World.cell?_alloc_new]
  simpa using hu
 |j+1,hu=>simp at hu
end Go.Proofs.YtmpldjbdhbapbaaGreatDoor.dec
