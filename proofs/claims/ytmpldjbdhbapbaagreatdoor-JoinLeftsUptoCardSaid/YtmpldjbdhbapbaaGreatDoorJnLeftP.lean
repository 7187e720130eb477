/- Plain: left joins with a condition that is always true, or never. -/
import Derived.Test.YtmpldjbdhbapbaaGreatDoorTabPtA
set_option linter.unusedSimpArgs false
set_option linter.unusedVariables false
namespace Go.Proofs.YtmpldjbdhbapbaaGreatDoor.tab
open Go.RowKit dec val
def partR(A B:Tab)(r:List V):List (List V):=B.rows.filterMap fun s=>if compat A.vars B.vars r s=true then some (joinR A.vars B.vars r s) else none
def padR(A B:Tab)(r:List V):List V:=(B.vars.foldl addN A.vars).map (cellF A.vars r)
def leftR(yes:Bool)(A B:Tab)(r:List V):List (List V):=if(yes&&foundB A.vars B.vars false B.rows r)=true then partR A B r else[padR A B r]
def leftT(yes:Bool)(A B:Tab):Tab:=⟨B.vars.foldl addN A.vars,A.rows.flatMap (leftR yes A B)⟩
def leftZ(yes:Bool)(A B:Tab):Tab:=if mayT A=true∧mayT B=true∧(B.vars.foldl addN A.vars).length≤64 then leftT yes A B else⟨[],[]⟩
def leftK(yes:Bool)(A B:Tab)(k:Nat):List (List V):=(A.rows.take k).flatMap (leftR yes A B)
theorem leftK_zero(yes:Bool)(A B:Tab):leftK yes A B 0=[]:=rfl
theorem leftK_all(yes:Bool)(A B:Tab):leftK yes A B A.rows.length=(leftT yes A B).rows:=by unfold leftK leftT;rw[List.take_length]
theorem leftK_next(yes:Bool)(A B:Tab){k:Nat}(h:k<A.rows.length):leftK yes A B (k+1)=leftK yes A B k++leftR yes A B A.rows[k]:=by
 unfold leftK
 rw[List.take_succ_eq_append_getElem h,List.flatMap_append,List.flatMap_cons,List.flatMap_nil,List.append_nil]
theorem leftR_len(yes:Bool)(A B:Tab)(r:List V):(leftR yes A B r).length≤B.rows.length+1:=by
 unfold leftR
 split
 ·unfold partR
  exact Nat.le_succ_of_le (List.length_filterMap_le _ _)
 ·simp
theorem leftK_len(yes:Bool)(A B:Tab)(k:Nat)(h:k≤A.rows.length):(leftK yes A B k).length≤k * (B.rows.length+1):=by
 induction k with
 |zero=>simp[leftK]
 |succ k ih=>
  rw[leftK_next yes A B h,List.length_append,Nat.succ_mul]
  have:=ih (by omega)
  have:=leftR_len yes A B (A.rows[k]'h)
  omega
theorem part_nil{A B:Tab}{r:List V}(h:foundB A.vars B.vars false B.rows r=false):partR A B r=[]:=parts_nil h
theorem part_some{A B:Tab}{r:List V}(h:foundB A.vars B.vars false B.rows r=true):partR A B r≠[]:=fun e=>by
 unfold foundB at h
 obtain⟨s,hs,hc⟩:=List.any_eq_true.1 h
 rw[Bool.and_eq_true]at hc
 unfold partR at e
 rw[List.filterMap_eq_nil_iff]at e
 have:=e s hs
 rw[if_pos hc.1]at this
 cases this
theorem leftR_some{A B:Tab}{r:List V}(h:partR A B r≠[]):leftR true A B r=partR A B r:=by
 unfold leftR
 cases hf:foundB A.vars B.vars false B.rows r with
 |true=>rfl
 |false=>exact absurd (part_nil hf) h
theorem leftR_none{A B:Tab}{r:List V}(h:partR A B r=[]):leftR true A B r=[padR A B r]:=by
 unfold leftR
 cases hf:foundB A.vars B.vars false B.rows r with
 |true=>exact absurd h (part_some hf)
 |false=>rfl
theorem flat_one{α β:Type}(f:α→β):∀l:List α,(l.flatMap fun x=>[f x])=l.map f
 |[]=>rfl
 |x::l=>by rw[List.flatMap_cons,flat_one f l];rfl
theorem left_no(A B:Tab):leftT false A B=projT A (B.vars.foldl addN A.vars):=by
 unfold leftT projT
 rw[show leftR false A B=fun r=>[padR A B r] from rfl,flat_one]
 rfl
theorem left_rows(A B:Tab):∀l:List (List V),(l.flatMap (leftR true A B)).Perm ((l.flatMap (partR A B))++(l.filter fun r=>foundB A.vars B.vars false B.rows r==false).map (padR A B))
 |[]=>List.Perm.refl _
 | r :: l => by
  have ih:=left_rows A B l
  rw[List.flatMap_cons,List.flatMap_cons]
  cases hf:foundB A.vars B.vars false B.rows r with
  |true=>
   rw[leftR_some (part_some hf),List.filter_cons_of_neg (by rw[hf];decide),List.append_assoc]
   exact ih.append_left _
  |false=>
   rw[leftR_none (part_nil hf),part_nil hf,List.filter_cons_of_pos (by rw[hf];decide),List.map_cons,List.nil_append]
   exact(ih.cons _).trans List.perm_middle.symm
theorem may_perm{a b:Tab}(hb:mayT b=true)(hv:a.vars=b.vars)(hp:a.rows.Perm b.rows):mayT a=true:=by
 obtain⟨h1,h2⟩:=may_rows hb
 unfold mayT
 rw[Bool.and_eq_true,List.all_eq_true,hv]
 exact⟨h1,fun r hr=>h2 r (hp.mem_iff.1 hr)⟩
theorem names_join{A B:Tab}(mA:mayT A=true)(mB:mayT B=true)(h64:(B.vars.foldl addN A.vars).length≤64):namesB (B.vars.foldl addN A.vars)=true:=by
 have h:=(may_rows (joinT_may mA mB)).1
 rw[joinT_rows h64]at h
 exact h
theorem left_yes{A B:Tab}(mA:mayT A=true)(mB:mayT B=true)(h64:(B.vars.foldl addN A.vars).length≤64):
 mayT (leftT true A B)=true∧sameT (leftT true A B) (unionT (joinT A B) (projT (someT A B false false) (joinT A B).vars))=true∧(leftT true A B).rows.Perm (unionT (joinT A B) (projT (someT A B false false) (joinT A B).vars)).rows:=by
 have hn:=names_join mA mB h64
 have hj:joinT A B=⟨B.vars.foldl addN A.vars,joinRows A B⟩:=joinT_rows h64
 have mJ:=joinT_may mA mB
 have mP:=projT_may (some_may B mA false false) (show namesB (joinT A B).vars=true by rw[hj];exact hn)
 have mU:=unionT_may mJ mP
 have hu:=union_same mJ mP rfl
 have hp:(leftT true A B).rows.Perm (unionT (joinT A B) (projT (someT A B false false) (joinT A B).vars)).rows:=by
  rw[hu,hj]
  exact left_rows A B A.rows
 have hv:(leftT true A B).vars=(unionT (joinT A B) (projT (someT A B false false) (joinT A B).vars)).vars:=by rw[hu,hj];rfl
 exact⟨may_perm mU hv hp,same_perm (may_perm mU hv hp) mU hv hp,hp⟩
theorem wt_left{A B:Tab}(mA:mayT A=true)(mB:mayT B=true)(yes:Bool)(hl:A.vars.length+B.vars.length≤64){p:Nat}(h1:∀r∈A.rows,wtL r≤p)(h2:∀r∈B.rows,wtL r≤p):∀r∈(leftT yes A B).rows,wtL r≤p+p+128:=by
 intro x hx
 obtain⟨r,hr,hx⟩:=List.mem_flatMap.1 hx
 have hA:=(may_rows mA).2 r hr
 obtain⟨-,-,hdA⟩:=names_parts (may_rows mA).1
 have hpad:wtL (padR A B r)≤p+p+128:=by
  have h3:=wt_cells (B:=B.vars) hdA (row_len hA)
  have h4:=h1 r hr
  have h5:=foldN_len B.vars A.vars
  unfold padR
  omega
 have hf64:(B.vars.foldl addN A.vars).length≤64:=Nat.le_trans (foldN_len _ _) hl
 have hjo:=wt_joinT mA mB hl h1 h2
 rw[joinT_rows hf64]at hjo
 unfold leftR at hx
 split at hx
 ·exact hjo x (List.mem_flatMap.2 ⟨r,hr,hx⟩)
 ·rw[List.mem_singleton]at hx
  rw[hx]
  exact hpad
end Go.Proofs.YtmpldjbdhbapbaaGreatDoor.tab
