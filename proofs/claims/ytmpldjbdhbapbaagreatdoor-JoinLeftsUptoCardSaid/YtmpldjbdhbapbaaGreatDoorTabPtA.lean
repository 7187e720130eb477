/- Texts TabKeyP, JnLen, TabPartP, JnPartP, one behind the other. -/
import Derived.Test.YtmpldjbdhbapbaaGreatDoorTabLightA
import Derived.Test.YtmpldjbdhbapbaaGreatDoorTabUnA
set_option linter.unusedSimpArgs false
set_option linter.unusedVariables false
namespace Go.Proofs.YtmpldjbdhbapbaaGreatDoor.tab
open Go.RowKit dec val
mutual
theorem encV_le9:∀v,(encV v).length≤9 * wtV v
 |.mk k b n t x l=>by
  have hl:=encL_le9 l
  rw[encV_mk,wtV,List.length_cons]
  have h1:(txL t).length=4+t.size:=by unfold txL;rw[List.length_append,bigL_len];simp
  have h2:(txL x).length=4+x.size:=by unfold txL;rw[List.length_append,bigL_len];simp
  split
  ·simp;omega
  split
  ·rw[bigL_len];omega
  split
  ·rw[h1];omega
  split
  ·rw[List.length_append,h1,h2];omega
  split
  ·rw[List.length_append,bigL_len];omega
  ·simp;omega
theorem encL_le9:∀l,(encL l).length≤9 * wtL l
 |[]=>by simp[encL]
 |v::r=>by rw[encL,wtL,List.length_append];have:=encV_le9 v;have:=encL_le9 r;omega
end
mutual
theorem wtV_size:∀v,wtV v≤127 * sizeV v
 |.mk k b n t x l=>by
  have:=wtL_size l
  rw[wtV,sizeV]
  omega
theorem wtL_size:∀l,wtL l≤127 * sizeL l
 |[]=>by simp[wtL]
 |v::r=>by rw[wtL,sizeL];have:=wtV_size v;have:=wtL_size r;omega
end
theorem sizeR_mem{r:List V}{l:List (List V)}(h:r∈l):1+sizeL r≤sizeR l:=by
 induction l with
 |nil=>cases h
 |cons u l ih=>
  rw[sizeR]
  rcases List.mem_cons.1 h with rfl|h
  ·omega
  ·have:=ih h;omega
theorem wtL_app(a b:List V):wtL (a++b)=wtL a+wtL b:=by
 induction a with
 |nil=>simp[wtL]
 |cons v r ih=>rw[List.cons_append,wtL,wtL,ih];omega
theorem wtL_perm{a b:List V}(h:a.Perm b):wtL a=wtL b:=by
 induction h with
 |nil=>rfl
 |cons x _ ih=>rw[wtL,wtL,ih]
 |swap x y l=>simp only[wtL];omega
 |trans _ _ h1 h2=>rw[h1,h2]
theorem wt_or(F:List ByteArray)(f g:ByteArray→V):wtL (F.map fun x=>orN (f x) (g x))≤wtL (F.map f)+wtL (F.map g):=by
 induction F with
 |nil=>simp[wtL]
 |cons x F ih=>
  rw[List.map_cons,List.map_cons,List.map_cons,wtL,wtL,wtL]
  have h:wtV (orN (f x) (g x))≤wtV (f x)+wtV (g x):=by unfold orN;split<;>omega
  omega
theorem wt_null(m:List ByteArray){ns:List ByteArray}{r:List V}(hl:r.length=ns.length)(h:∀x∈m,x∉ns):wtL (m.map (cellF ns r))=m.length:=by
 induction m with
 |nil=>rfl
 |cons x m ih=>
  rw[List.map_cons,wtL,cell_out hl (h x (by simp)),ih fun y hy=>h y (by simp[hy])]
  have h1:wtV nullV=1:=rfl
  rw[h1,List.length_cons]
  omega
theorem wt_cells{A B:List ByteArray}{r:List V}(hA:A.Nodup)(hl:r.length=A.length):wtL ((B.foldl addN A).map (cellF A r))≤wtL r+(B.foldl addN A).length:=by
 obtain⟨m,hm⟩:=foldN_prefix B A
 have hn:=foldN_nodup B A hA
 rw[hm]at hn ⊢
 rw[List.nodup_append]at hn
 rw[List.map_append,wtL_app,cells_row hA hl,wt_null m hl fun x hx h=>hn.2.2 x h x hx rfl,List.length_append]
 omega
theorem fold_perm{A B:List ByteArray}(hA:A.Nodup)(hB:B.Nodup):(B.foldl addN A).Perm (A.foldl addN B):=by
 rw[List.perm_ext_iff_of_nodup (foldN_nodup _ _ hA) (foldN_nodup _ _ hB)]
 intro x
 rw[mem_foldN,mem_foldN]
 exact Or.comm
theorem wt_join{A B:List ByteArray}{r s:List V}(hA:A.Nodup)(hB:B.Nodup)(hr:r.length=A.length)(hs:s.length=B.length):wtL (joinR A B r s)≤wtL r+wtL s+2 * (B.foldl addN A).length:=by
 have h1:=wt_cells (B:=B) hA hr
 have h2:=wt_cells (B:=A) hB hs
 have h3:=wtL_perm ((fold_perm hA hB).map (cellF B s))
 have h4:=(fold_perm hA hB).length_eq
 have h5:=wt_or (B.foldl addN A) (cellF A r) (cellF B s)
 unfold joinR
 omega
theorem key_light{A:Tab}(h:∀r∈A.rows,wtL r≤1100000):KeyL A:=fun r hr=>by
 have:=encL_le9 r
 have:=h r hr
 omega
theorem rowsJ_mem{a b:Tab}{x:List V}(h:x∈joinRows a b):∃r∈a.rows,∃s∈b.rows,x=joinR a.vars b.vars r s:=by
 unfold joinRows at h
 obtain⟨r,hr,h2⟩:=List.mem_flatMap.1 h
 obtain⟨s,hs,h3⟩:=List.mem_filterMap.1 h2
 by_cases hc:compat a.vars b.vars r s=true
 ·rw[if_pos hc]at h3
  injection h3 with h3
  exact⟨r,hr,s,hs,h3.symm⟩
 ·rw[if_neg hc]at h3;cases h3
theorem rowL_of{n:Nat}{r:List V}(h:rowB n r=true):r.length=n:=by unfold rowB at h;rw[Bool.and_eq_true,decide_eq_true_eq]at h;exact h.1
theorem wt_joinT{A B:Tab}(ha:mayT A=true)(hb:mayT B=true)(hl:A.vars.length+B.vars.length≤64){p q:Nat}(h1:∀r∈A.rows,wtL r≤p)(h2:∀r∈B.rows,wtL r≤q):∀r∈(joinT A B).rows,wtL r≤p+q+128:=by
 intro x hx
 obtain⟨hnA,hrA⟩:=may_rows ha
 obtain⟨hnB,hrB⟩:=may_rows hb
 obtain⟨-,-,hdA⟩:=names_parts hnA
 obtain⟨-,-,hdB⟩:=names_parts hnB
 have hf:=foldN_len B.vars A.vars
 unfold joinT at hx
 rw[if_pos (by omega)]at hx
 obtain⟨r,hr,s,hs,rfl⟩:=rowsJ_mem hx
 have:=wt_join hdA hdB (rowL_of (hrA r hr)) (rowL_of (hrB s hs))
 have:=h1 r hr
 have:=h2 s hs
 omega
open Go.RowKit dec val
open Go.RowKit dec val
open Go.RowKit dec val
def foundB(A B:List ByteArray)(bd:Bool)(S:List (List V))(r:List V):Bool:=S.any fun s=>compat A B r s&&(shared A B r s||!bd)
def someT(a b:Tab)(has bd:Bool):Tab:=⟨a.vars,a.rows.filter fun r=>foundB a.vars b.vars bd b.rows r==has⟩
def someZ(a b:Tab)(has bd:Bool):Tab:=if(mayT a&&mayT b)=true then someT a b has bd else⟨[],[]⟩
theorem found_parts(A B:List ByteArray)(bd:Bool)(r:List V):∀S:List (List V),foundB A B bd S r=(S.filterMap fun s=>if compat A B r s=true then some (joinR A B r s,shared A B r s) else none).any fun p=>p.2||!bd
 |[]=>rfl
 | s :: S => by
  have ih:=found_parts A B bd r S
  unfold foundB at ih ⊢
  rw[List.any_cons,List.filterMap_cons,ih]
  by_cases h:compat A B r s=true
  ·rw[if_pos h,h]
   simp
  ·have h0:compat A B r s=false:=by simpa using h
   rw[if_neg h,h0]
   simp
theorem some_may{a:Tab}(b:Tab)(ha:mayT a=true)(has bd:Bool):mayT (someT a b has bd)=true:=half_may ha fun r hr=>(List.mem_filter.1 hr).1
theorem some_len(a b:Tab)(has bd:Bool):(someT a b has bd).rows.length≤a.rows.length:=by unfold someT;exact List.length_filter_le _ _
theorem found_no{A B:List ByteArray}{S:List (List V)}{r s:List V}(h:foundB A B false S r=false)(hs:s∈S):compat A B r s=false:=by
 unfold foundB at h
 rw[List.any_eq_false]at h
 have:=h s hs
 cases hc:compat A B r s with
 |false=>rfl
 |true=>rw[hc]at this;simp at this
theorem parts_nil{A B:List ByteArray}{S:List (List V)}{r:List V}(h:foundB A B false S r=false):(S.filterMap fun s=>if compat A B r s=true then some (joinR A B r s) else none)=[]:=by
 rw[List.filterMap_eq_nil_iff]
 intro s hs
 rw[found_no h hs]
 rfl
theorem joinT_rows{a b:Tab}(h:(b.vars.foldl addN a.vars).length≤64):joinT a b=⟨b.vars.foldl addN a.vars,joinRows a b⟩:=if_pos h
def someK(a b:Tab)(has bd:Bool)(k:Nat):List (List V):=(a.rows.take k).filter fun r=>foundB a.vars b.vars bd b.rows r==has
theorem someK_zero(a b:Tab)(has bd:Bool):someK a b has bd 0=[]:=rfl
theorem someK_all(a b:Tab)(has bd:Bool):someK a b has bd a.rows.length=(someT a b has bd).rows:=by unfold someK;rw[List.take_length];rfl
theorem someK_yes{a b:Tab}{has bd:Bool}{k:Nat}(h:k<a.rows.length)(hf:foundB a.vars b.vars bd b.rows a.rows[k]=has):someK a b has bd (k+1)=someK a b has bd k++[a.rows[k]]:=by
 unfold someK
 rw[List.take_succ_eq_append_getElem h,List.filter_append,List.filter_cons_of_pos (by rw[hf];simp),List.filter_nil]
theorem someK_no{a b:Tab}{has bd:Bool}{k:Nat}(h:k<a.rows.length)(hf:foundB a.vars b.vars bd b.rows a.rows[k]≠has):someK a b has bd (k+1)=someK a b has bd k:=by
 unfold someK
 rw[List.take_succ_eq_append_getElem h,List.filter_append,List.filter_cons_of_neg (by simpa using hf),List.filter_nil,List.append_nil]
theorem someK_len(a b:Tab)(has bd:Bool)(k:Nat)(h:k≤a.rows.length):(someK a b has bd k).length≤k:=by
 unfold someK
 refine Nat.le_trans (List.length_filter_le _ _) ?_
 rw[List.length_take]
 omega
end Go.Proofs.YtmpldjbdhbapbaaGreatDoor.tab
