/- Plain mathematics of decimals as texts: digits, what a row of digits says, the decimal of a sign and an amount. No program in sight. -/
import Derived.Lib.ItoaNum
set_option linter.unusedVariables false
namespace Go.Proofs.YtmpldjbdhbapbaaGreatDoor.dec
def dg(d:Nat):UInt8:=UInt8.ofNat (48+d)
def isD(c:UInt8):Bool:=decide (48≤c.toNat∧c.toNat≤57)
def dv(c:UInt8):Nat:=c.toNat-48
theorem dg_toNat{d:Nat}(h:d<10):(dg d).toNat=48+d:=by unfold dg;rw[UInt8.toNat_ofNat'];omega
theorem isD_dg{d:Nat}(h:d<10):isD (dg d)=true:=by unfold isD;rw[dg_toNat h];simp;omega
theorem dv_dg{d:Nat}(h:d<10):dv (dg d)=d:=by unfold dv;rw[dg_toNat h];omega
theorem dg_dv{c:UInt8}(h:isD c=true):dg (dv c)=c:=by
 unfold isD at h;simp at h
 apply UInt8.toNat_inj.1
 rw[dg_toNat (by unfold dv;omega)];unfold dv;omega
theorem dv_lt{c:UInt8}(h:isD c=true):dv c<10:=by unfold isD at h;simp at h;unfold dv;omega
def allD(l:List UInt8):Bool:=l.all isD
@[simp] theorem allD_nil:allD []=true:=rfl
@[simp] theorem allD_cons(c:UInt8)(l:List UInt8):allD (c::l)=(isD c&&allD l):=rfl
@[simp] theorem allD_append(l m:List UInt8):allD (l++m)=(allD l&&allD m):=by simp[allD]
theorem allD_take{l:List UInt8}(k:Nat)(h:allD l=true):allD (l.take k)=true:=by
 simp only[allD,List.all_eq_true]at *;exact fun c hc=>h c (List.mem_of_mem_take hc)
theorem allD_drop{l:List UInt8}(k:Nat)(h:allD l=true):allD (l.drop k)=true:=by
 simp only[allD,List.all_eq_true]at *;exact fun c hc=>h c (List.mem_of_mem_drop hc)
theorem allD_replicate(k:Nat):allD (List.replicate k 48)=true:=by
 simp only[allD,List.all_eq_true];intro c hc;rw[(List.mem_replicate.1 hc).2];decide
theorem rev_ind{P:List UInt8→Prop}(h0:P [])(h1:∀l c,P l→P (l++[c]))(l:List UInt8):P l:=by
 have:∀m:List UInt8,P m.reverse:=by
  intro m
  induction m with
  |nil=>exact h0
  |cons c m ih=>rw[List.reverse_cons];exact h1 _ _ ih
 have h:=this l.reverse
 rwa [List.reverse_reverse]at h
def val(l:List UInt8):Nat:=l.foldl (fun a c=>a * 10+dv c) 0
theorem foldl_val(l:List UInt8):∀a,l.foldl (fun a c=>a * 10+dv c) a=a * 10 ^ l.length+val l:=by
 induction l with
 |nil=>intro a;simp[val]
 |cons c l ih=>
  intro a
  simp only[List.foldl_cons,val,Nat.zero_mul,Nat.zero_add,List.length_cons]
  rw[ih,ih (dv c),Nat.pow_succ,Nat.add_mul,Nat.mul_assoc,Nat.mul_comm 10,Nat.add_assoc]
theorem val_append(l m:List UInt8):val (l++m)=val l * 10 ^ m.length+val m:=by
 unfold val;rw[List.foldl_append,foldl_val];rfl
theorem val_snoc(l:List UInt8)(c:UInt8):val (l++[c])=val l * 10+dv c:=by rw[val_append];simp[val]
theorem val_cons(c:UInt8)(l:List UInt8):val (c::l)=dv c * 10 ^ l.length+val l:=by
 rw[show c::l=[c]++l from rfl,val_append];simp[val]
theorem val_lt{l:List UInt8}(h:allD l=true):val l<10 ^ l.length:=by
 induction l with
 |nil=>simp[val]
 |cons c l ih=>
  rw[allD_cons,Bool.and_eq_true]at h
  rw[val_cons,List.length_cons,Nat.pow_succ]
  have h1:=dv_lt h.1
  have h2:=ih h.2
  have:dv c * 10 ^ l.length≤9 * 10 ^ l.length:=Nat.mul_le_mul_right _ (by omega)
  omega
theorem val_replicate(k:Nat):val (List.replicate k 48)=0:=by
 induction k with
 |zero=>rfl
 |succ k ih=>rw[List.replicate_succ,val_cons,ih];simp[dv]
def pad:Nat→Nat→List UInt8
 |0,_=>[]
 |k+1,n=>pad k (n / 10)++[dg (n % 10)]
@[simp] theorem pad_length:∀k n,(pad k n).length=k
 |0,_=>rfl
 |k+1,n=>by simp[pad,pad_length k]
theorem pad_allD:∀k n,allD (pad k n)=true
 |0,_=>rfl
 |k+1,n=>by simp[pad,pad_allD k,isD_dg (Nat.mod_lt n (show 0<10 by decide))]
theorem pad_val:∀k n,val (pad k n)=n % 10 ^ k
 |0,n=>by simp[pad,val,Nat.mod_one]
 |k+1,n=>by
  rw[pad,val_snoc,pad_val k,dv_dg (Nat.mod_lt _ (by decide)),Nat.pow_succ,Nat.mul_comm (10 ^ k) 10,Nat.mod_mul]
  omega
theorem pad_of_val{l:List UInt8}(h:allD l=true):pad l.length (val l)=l:=by
 revert h
 refine rev_ind (P:=fun l=>allD l=true→pad l.length (val l)=l) (fun _=>rfl) ?_ l
 ·intro l c ih h
  simp only[allD_append,Bool.and_eq_true,allD_cons,allD_nil,Bool.and_true]at h
  have:=dv_lt h.2
  rw[val_snoc,List.length_append,List.length_singleton,pad,show(val l * 10+dv c) / 10=val l by omega,show(val l * 10+dv c) % 10=dv c by omega,ih h.1,dg_dv h.2]
theorem pad_mod(k n:Nat):pad k (n % 10 ^ k)=pad k n:=by
 have h:=pad_of_val (pad_allD k n)
 rw[pad_length,pad_val]at h
 exact h
def trimL(l:List UInt8):List UInt8:=l.dropWhile (·==48)
def trimR(l:List UInt8):List UInt8:=(l.reverse.dropWhile (·==48)).reverse
def digs(n:Nat):List UInt8:=if n=0 then[] else Lib.decDigits n
theorem digs_step(n:Nat)(h:n≠0):digs n=digs (n / 10)++[dg (n % 10)]:=by
 unfold digs
 rw[if_neg h,Lib.decDigits]
 by_cases h9:n<10
 ·rw[dif_pos h9,if_pos (by omega),show n % 10=n by omega];rfl
 ·rw[dif_neg h9,if_neg (by omega)];rfl
theorem trimL_snoc(l:List UInt8)(c:UInt8):trimL (l++[c])=if trimL l=[] then trimL [c] else trimL l++[c]:=by
 induction l with
 |nil=>simp[trimL]
 | cons a l ih =>
  by_cases ha:a=48
  ·have e:∀m,trimL (a::m)=trimL m:=fun m=>by subst ha;rfl
   rw[List.cons_append,e,e];exact ih
  ·have e:∀m,trimL (a::m)=a::m:=fun m=>by unfold trimL;rw[List.dropWhile_cons_of_neg (by simpa using ha)]
   rw[List.cons_append,e,e];simp
theorem trimL_eq{l:List UInt8}(h:allD l=true):trimL l=digs (val l):=by
 revert h
 refine rev_ind (P:=fun l=>allD l=true→trimL l=digs (val l)) (fun _=>rfl) ?_ l
 ·intro l c ih h
  simp only[allD_append,Bool.and_eq_true,allD_cons,allD_nil,Bool.and_true]at h
  have hc:=dv_lt h.2
  have hd:digs (val l)=[]↔val l=0:=by
   constructor
   ·intro h0
    apply Classical.byContradiction
    intro h1
    rw[digs_step _ h1]at h0;simp at h0
   ·intro h0;rw[h0];rfl
  rw[trimL_snoc,ih h.1,val_snoc]
  by_cases h0:val l=0
  ·rw[if_pos (hd.2 h0),h0,Nat.zero_mul,Nat.zero_add]
   unfold trimL
   by_cases hz:c==48
   ·have:c=48:=by simpa using hz
    subst this;simp[dv,digs]
   ·have hz':dv c≠0:=by
     intro h1
     have:=dg_dv h.2
     rw[h1]at this
     exact hz (by rw[←this];rfl)
    rw[digs_step _ hz',show dv c / 10=0 by omega,show dv c % 10=dv c by omega,dg_dv h.2]
    simp[digs,hz]
  ·rw[if_neg (fun h1=>h0 (hd.1 h1)),digs_step (val l * 10+dv c) (by omega),show(val l * 10+dv c) / 10=val l by omega,show(val l * 10+dv c) % 10=dv c by omega,dg_dv h.2]
theorem digs_allD(n:Nat):allD (digs n)=true:=by
 induction n using Nat.strongRecOn with
 |_ n ih=>
  by_cases h:n=0
  ·subst h;rfl
  ·rw[digs_step n h];simp[ih (n / 10) (by omega),isD_dg (Nat.mod_lt n (show 0<10 by decide))]
theorem digs_val(n:Nat):val (digs n)=n:=by
 induction n using Nat.strongRecOn with
 |_ n ih=>
  by_cases h:n=0
  ·subst h;rfl
  ·rw[digs_step n h,val_snoc,ih (n / 10) (by omega),dv_dg (Nat.mod_lt _ (by decide))];omega
theorem digs_nil{n:Nat}:digs n=[]↔n=0:=by
 constructor
 ·intro h;rw[←digs_val n,h];rfl
 ·intro h;subst h;rfl
theorem digs_lt(n k:Nat):(digs n).length≤k↔n<10 ^ k:=by
 constructor
 ·intro h
  have:=val_lt (digs_allD n)
  rw[digs_val]at this
  exact Nat.lt_of_lt_of_le this (Nat.pow_le_pow_right (by decide) h)
 ·intro h
  induction k generalizing n with
  |zero=>rw[show n=0 by simpa using h];simp[digs]
  | succ k ih =>
   by_cases h0:n=0
   ·subst h0;simp[digs]
   ·rw[digs_step n h0]
    have:=ih (n / 10) (by rw[Nat.pow_succ]at h;omega)
    simp;omega
theorem trimR_snoc(l:List UInt8)(c:UInt8):trimR (l++[c])=if c==48 then trimR l else l++[c]:=by
 unfold trimR
 by_cases h:c==48<;>simp[h]
def frac(k r:Nat):List UInt8:=trimR (pad k r)
theorem frac_zero(r:Nat):frac 0 r=[]:=rfl
theorem frac_step(k r:Nat):frac (k+1) r=if r % 10=0 then frac k (r / 10) else pad (k+1) r:=by
 unfold frac
 rw[pad,trimR_snoc]
 by_cases h:r % 10=0
 ·rw[if_pos h,h];rfl
 ·rw[if_neg h]
  have:(dg (r % 10)==48)=false:=by
   apply Bool.eq_false_iff.2
   intro h1
   have h2:dg (r % 10)=48:=by simpa using h1
   have:=congrArg dv h2
   rw[dv_dg (Nat.mod_lt _ (by decide))]at this
   exact h this
  rw[this];rfl
theorem frac_length(k r:Nat):(frac k r).length≤k:=by
 induction k generalizing r with
 |zero=>simp[frac_zero]
 |succ k ih=>
  rw[frac_step]
  split
  ·have:=ih (r / 10);omega
  ·simp
theorem frac_allD(k r:Nat):allD (frac k r)=true:=by
 induction k generalizing r with
 |zero=>rfl
 |succ k ih=>
  rw[frac_step]
  split
  ·exact ih _
  ·exact pad_allD _ _
theorem frac_val(k r:Nat):val (frac k r) * 10 ^ (k-(frac k r).length)=r % 10 ^ k:=by
 induction k generalizing r with
 |zero=>simp[frac_zero,val,Nat.mod_one]
 | succ k ih =>
  rw[frac_step]
  split
  ·rename_i h
   have h1:=ih (r / 10)
   have h2:=frac_length k (r / 10)
   rw[show k+1-(frac k (r / 10)).length=(k-(frac k (r / 10)).length)+1 by omega,Nat.pow_succ,←Nat.mul_assoc,h1,Nat.pow_succ,Nat.mul_comm (10 ^ k) 10,Nat.mod_mul,h]
   omega
  ·rw[pad_length,Nat.sub_self,Nat.pow_zero,Nat.mul_one,pad_val]
theorem frac_mod(k r:Nat):frac k (r % 10 ^ k)=frac k r:=by unfold frac;rw[pad_mod]
theorem frac_nil{k r:Nat}:frac k r=[]↔r % 10 ^ k=0:=by
 constructor
 ·intro h
  have:=frac_val k r
  rw[h]at this
  simpa[val]using this.symm
 ·intro h
  rw[←frac_mod,h]
  clear h
  induction k with
  |zero=>rfl
  |succ k ih=>rw[frac_step,if_pos rfl,Nat.zero_div];exact ih
theorem frac_more(k j r:Nat):frac (k+j) (r * 10 ^ j)=frac k r:=by
 induction j with
 |zero=>simp
 |succ j ih=>rw[←Nat.add_assoc,frac_step,Nat.pow_succ,←Nat.mul_assoc,if_pos (by omega),show r * 10 ^ j * 10 / 10=r * 10 ^ j by omega,ih]
theorem trimR_eq{l:List UInt8}(h:allD l=true):trimR l=frac l.length (val l):=by
 unfold frac;rw[pad_of_val h]
def fmt(neg:Bool)(w p:List UInt8):List UInt8:=
 (if neg then[45] else[])++(if w=[] then[48] else w)++[46]++(if p=[] then[48] else p)
def told(neg:Bool)(N sc:Nat):Option (List UInt8):=
 if 40<(digs (N / 10 ^ sc)).length∨20<(frac sc N).length then none
 else some (fmt (neg&&decide (N≠0)) (digs (N / 10 ^ sc)) (frac sc N))
def canon(z:Int):List UInt8:=fmt (decide (z<0)) (digs (z.natAbs / 10 ^ 20)) (frac 20 z.natAbs)
def top:Nat:=10 ^ 60
def small(z:Int):Prop:=z.natAbs<top
def signed(neg:Bool)(N:Nat):Int:=if neg then -(N:Int) else N
theorem signed_natAbs(neg:Bool)(N:Nat):(signed neg N).natAbs=N:=by unfold signed;split<;>omega
theorem signed_neg(neg:Bool)(N:Nat):decide (signed neg N<0)=(neg&&decide (N≠0)):=by
 unfold signed
 cases neg
 ·simp
 ·simp only[if_true,Bool.true_and,decide_eq_decide];omega
def toldP(neg:Bool)(N sc:Nat):List UInt8×Int:=match told neg N sc with
 |none=>([],2)
 |some t=>(t,0)
end Go.Proofs.YtmpldjbdhbapbaaGreatDoor.dec
