/- Texts JnLen, TabPartP, JnPartP, one behind the other. -/
import Derived.Test.YtidplkfhodpdhaaGreatDoorTabUnA
set_option linter.unusedSimpArgs false
set_option linter.unusedVariables false
namespace Go.Proofs.YtidplkfhodpdhaaGreatDoor.tab
open Go.RowKit dec val
theorem joinRows_len(A B:Tab):(joinRows A B).length≤A.rows.length * B.rows.length:=by
 by_cases h0:0<A.rows.length
 ·have h1:=rowsIJ_len A B (A.rows.length-1) B.rows.length (by omega) (Nat.le_refl _)
  rw[←rowsIJ_next A B (by omega),show A.rows.length-1+1=A.rows.length by omega,rowsIJ_end]at h1
  have h2:(A.rows.length-1) * B.rows.length+B.rows.length=A.rows.length * B.rows.length:=by
   obtain⟨n,hn⟩:∃n,A.rows.length=n+1:=⟨A.rows.length-1,by omega⟩
   rw[hn,Nat.succ_mul];simp
  omega
 ·have h1:A.rows=[]:=List.eq_nil_of_length_eq_zero (by omega)
  unfold joinRows
  rw[h1];simp
theorem joinT_len(A B:Tab):(joinT A B).rows.length≤A.rows.length * B.rows.length:=by
 unfold joinT
 split
 ·exact joinRows_len A B
 ·simp
theorem distT_len(a:Tab):(distT a).rows.length≤a.rows.length:=by
 rw[distK_end]
 exact distK_len a _
def foundB(A B:List ByteArray)(bd:Bool)(S:List (List V))(r:List V):Bool:=S.any fun s=>compat A B r s&&(shared A B r s||!bd)
def someT(a b:Tab)(has bd:Bool):Tab:=⟨a.vars,a.rows.filter fun r=>foundB a.vars b.vars bd b.rows r==has⟩
theorem some_minus(a b:Tab):someT a b false true=minusT a b:=by
 unfold someT minusT foundB
 congr 1
 refine List.filter_congr fun r _=>?_
 have e:(fun s=>compat a.vars b.vars r s&&(shared a.vars b.vars r s||!true))=fun s=>compat a.vars b.vars r s&&shared a.vars b.vars r s:=by
  funext s
  simp
 rw[e]
 cases List.any b.rows _<;>rfl
def someK(a b:Tab)(has bd:Bool)(k:Nat):List (List V):=(a.rows.take k).filter fun r=>foundB a.vars b.vars bd b.rows r==has
theorem someK_zero(a b:Tab)(has bd:Bool):someK a b has bd 0=[]:=rfl
theorem someK_all(a b:Tab)(has bd:Bool):someK a b has bd a.rows.length=(someT a b has bd).rows:=by unfold someK;rw[List.take_length];rfl
theorem someK_yes{a b:Tab}{has bd:Bool}{k:Nat}(h:k<a.rows.length)(hf:foundB a.vars b.vars bd b.rows a.rows[k]=has):someK a b has bd (k+1)=someK a b has bd k++[a.rows[k]]:=by
 unfold someK
 rw[List.take_succ_eq_append_getElem h,List.filter_append,List.filter_cons_of_pos (by rw[hf];simp),List.filter_nil]
theorem someK_no{a b:Tab}{has bd:Bool}{k:Nat}(h:k<a.rows.length)(hf:foundB a.vars b.vars bd b.rows a.rows[k]≠has):someK a b has bd (k+1)=someK a b has bd k:=by
 unfold someK
 rw[List.take_succ_eq_append_getElem h,List.filter_append,List.filter_cons_of_neg (by simpa using hf),List.filter_nil,List.append_nil]
theorem someK_len(a b:Tab)(has bd:Bool)(k:Nat)(h:k≤a.rows.length):(someK a b has bd k).length≤k:=by
 unfold someK
 refine Nat.le_trans (List.length_filter_le _ _) ?_
 rw[List.length_take]
 omega
end Go.Proofs.YtidplkfhodpdhaaGreatDoor.tab
