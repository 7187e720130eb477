/- Texts TabP, TabQ, TabJoinP, TabNestP, one behind the other. -/
import Derived.Test.YtmpldjbdhbapbaaGreatDoorValBA
set_option linter.unusedSimpArgs false
set_option linter.unusedVariables false
namespace Go.Proofs.YtmpldjbdhbapbaaGreatDoor.tab
open Go.RowKit dec val
instance decText:DecidableEq ByteArray:=fun a b=>decidable_of_iff (a.data.toList=b.data.toList) ⟨fun h=>by
 cases a;cases b
 simp only[ByteArray.mk.injEq]
 exact Array.toList_inj.1 h,fun h=>by rw[h]⟩
instance beqText:BEq ByteArray:=⟨fun a b=>decide (a=b)⟩
instance lawText:LawfulBEq ByteArray where
 eq_of_beq h:=of_decide_eq_true h
 rfl:=decide_eq_true rfl
def addN(ns:List ByteArray)(v:ByteArray):List ByteArray:=if v∈ns then ns else ns++[v]
theorem mem_addN{ns:List ByteArray}{v x:ByteArray}:x∈addN ns v↔x∈ns∨x=v:=by
 unfold addN
 by_cases h:v∈ns
 ·rw[if_pos h]
  constructor
  ·exact .inl
  ·rintro(h1|rfl)
   ·exact h1
   ·exact h
 ·rw[if_neg h];simp
theorem addN_nodup{ns:List ByteArray}(h:ns.Nodup)(v:ByteArray):(addN ns v).Nodup:=by
 unfold addN
 by_cases hv:v∈ns
 ·rw[if_pos hv];exact h
 ·rw[if_neg hv]
  rw[List.nodup_append]
  refine⟨h,by simp,fun a ha b hb=>?_⟩
  have:b=v:=by simpa using hb
  rw[this]
  rintro rfl
  exact hv ha
theorem mem_foldN{x:ByteArray}:∀(b a:List ByteArray),x∈b.foldl addN a↔x∈a∨x∈b
 |[],a=>by simp
 | v :: b, a => by
  rw[List.foldl_cons,mem_foldN b (addN a v),mem_addN,List.mem_cons]
  constructor
  ·rintro((h|h)|h)
   ·exact .inl h
   ·exact .inr (.inl h)
   ·exact .inr (.inr h)
  ·rintro(h|h|h)
   ·exact .inl (.inl h)
   ·exact .inl (.inr h)
   ·exact .inr h
theorem foldN_nodup:∀(b a:List ByteArray),a.Nodup→(b.foldl addN a).Nodup
 |[],a,h=>h
 |v::b,a,h=>foldN_nodup b (addN a v) (addN_nodup h v)
theorem foldN_prefix:∀(b a:List ByteArray),∃m,b.foldl addN a=a++m
 |[],a=>⟨[],by simp⟩
 |v::b,a=>by
  obtain⟨m,h⟩:=foldN_prefix b (addN a v)
  rw[List.foldl_cons,h]
  unfold addN
  by_cases hv:v∈a
  ·rw[if_pos hv];exact⟨m,rfl⟩
  ·rw[if_neg hv];exact⟨v::m,by simp⟩
theorem foldN_self:∀(b a:List ByteArray),(∀x∈b,x∈a)→b.foldl addN a=a
 |[],a,h=>rfl
 |v::b,a,h=>by
  have hv:addN a v=a:=by unfold addN;rw[if_pos (h v (by simp))]
  rw[List.foldl_cons,hv]
  exact foldN_self b a (fun x hx=>h x (by simp[hx]))
theorem foldN_len:∀(b a:List ByteArray),(b.foldl addN a).length≤a.length+b.length
 |[],a=>by simp
 |v::b,a=>by
  have:=foldN_len b (addN a v)
  have h2:(addN a v).length≤a.length+1:=by unfold addN;split<;>simp
  rw[List.foldl_cons,List.length_cons]
  omega
def nullV:V:=.mk 0 false 0 ⟨#[]⟩ ⟨#[]⟩ []
def isN(v:V):Bool:=decide (kindV v=0)
theorem emp_nil{s:ByteArray}(h:emp s=true):s=⟨#[]⟩:=by
 have h0:s.size=0:=of_decide_eq_true h
 cases s with
 |mk d=>
  have:d=#[]:=Array.eq_empty_of_size_eq_zero h0
  rw[this]
theorem may_null{v:V}(hm:mayV v=true)(h:isN v=true):v=nullV:=by
 cases v with
 |mk k b n t x l=>
  have hk:k=0:=of_decide_eq_true h
  subst hk
  have h1:chkW (fun l=>l.all (chkV 59)) (.mk 0 b n t x l)=true:=hm
  unfold chkW at h1
  simp only[if_true,Bool.and_eq_true,decide_eq_true_eq,Bool.not_eq_true']at h1
  obtain⟨⟨⟨⟨h2,h3⟩,h4⟩,h5⟩,h6⟩:=h1
  rw[h2,h3,emp_nil h4,emp_nil h5,List.eq_nil_of_length_eq_zero h6]
  rfl
theorem null_isN:isN nullV=true:=rfl
structure Tab where
 vars:List ByteArray
 rows:List (List V)
def namesB(l:List ByteArray):Bool:=decide (l.length≤64)&&l.all val.nameB&&decide l.Nodup
def rowB(n:Nat)(r:List V):Bool:=decide (r.length=n)&&r.all mayV
def mayT(t:Tab):Bool:=namesB t.vars&&t.rows.all (rowB t.vars.length)
def cellF(ns:List ByteArray)(r:List V)(x:ByteArray):V:=r.getD (ns.idxOf x) nullV
def orN(a b:V):V:=if isN a=true then b else a
def okC(a b:V):Bool:=isN a||(isN b||sameP a b)
def compat(A B:List ByteArray)(r s:List V):Bool:=B.all fun x=>!decide (x∈A)||okC (cellF A r x) (cellF B s x)
def shared(A B:List ByteArray)(r s:List V):Bool:=B.any fun x=>decide (x∈A)&&(!isN (cellF A r x)&&!isN (cellF B s x))
def joinR(A B:List ByteArray)(r s:List V):List V:=(B.foldl addN A).map fun x=>orN (cellF A r x) (cellF B s x)
def joinRows(a b:Tab):List (List V):=a.rows.flatMap fun r=>b.rows.filterMap fun s=>if compat a.vars b.vars r s=true then some (joinR a.vars b.vars r s) else none
def joinT(a b:Tab):Tab:=if(b.vars.foldl addN a.vars).length≤64 then⟨b.vars.foldl addN a.vars,joinRows a b⟩ else⟨[],[]⟩
def projT(a:Tab)(vs:List ByteArray):Tab:=⟨vs,a.rows.map fun r=>vs.map (cellF a.vars r)⟩
def unionT(a b:Tab):Tab:=
 if(b.vars.foldl addN a.vars).length≤64 then⟨b.vars.foldl addN a.vars,(a.rows.map fun r=>(b.vars.foldl addN a.vars).map (cellF a.vars r))++b.rows.map fun s=>(b.vars.foldl addN a.vars).map (cellF b.vars s)⟩ else⟨[],[]⟩
def cntK(k:List UInt8)(l:List (List UInt8)):Nat:=l.countP fun x=>decide (x=k)
def drain:(List UInt8→Nat)→List (List UInt8)→Bool
 |_,[]=>true
 |c,k::l=>if c k=0 then false else drain (fun x=>if x=k then c k-1 else c x) l
theorem drain_iff:∀(l:List (List UInt8)) (c:List UInt8→Nat),drain c l=true↔∀k,cntK k l≤c k
 |[],c=>by simp[drain,cntK]
 | a :: l, c => by
  rw[drain]
  by_cases h0:c a=0
  ·rw[if_pos h0]
   constructor
   ·intro h;cases h
   ·intro h
    have h1:=h a
    unfold cntK at h1
    rw[List.countP_cons_of_pos (by simp)]at h1
    omega
  ·rw[if_neg h0,drain_iff l]
   constructor
   ·intro h k
    have h1:=h k
    unfold cntK at h1 ⊢
    by_cases hk:k=a
    ·subst hk
     rw[if_pos rfl]at h1
     rw[List.countP_cons_of_pos (by simp)]
     omega
    ·rw[if_neg hk]at h1
     rw[List.countP_cons_of_neg (by simpa using fun e=>hk e.symm)]
     exact h1
   ·intro h k
    have h1:=h k
    unfold cntK at h1 ⊢
    by_cases hk:k=a
    ·subst hk
     rw[if_pos rfl]
     rw[List.countP_cons_of_pos (by simp)]at h1
     omega
    ·rw[if_neg hk]
     rw[List.countP_cons_of_neg (by simpa using fun e=>hk e.symm)]at h1
     exact h1
def sameT(a b:Tab):Bool:=mayT a&&mayT b&&decide (a.vars=b.vars)&&decide (a.rows.length=b.rows.length)&&drain (fun k=>cntK k (a.rows.map encL)) (b.rows.map encL)
theorem same_perm{a b:Tab}(ha:mayT a=true)(hb:mayT b=true)(hv:a.vars=b.vars)(hp:a.rows.Perm b.rows):sameT a b=true:=by
 unfold sameT
 rw[ha,hb,decide_eq_true hv,decide_eq_true hp.length_eq]
 have:drain (fun k=>cntK k (a.rows.map encL)) (b.rows.map encL)=true:=by
  rw[drain_iff]
  intro k
  unfold cntK
  rw[(hp.map encL).countP_eq]
  exact Nat.le_refl _
 rw[this]
 rfl
theorem cell_in{ns:List ByteArray}{r:List V}(hl:r.length=ns.length){x:ByteArray}(h:x∈ns):cellF ns r x∈r:=by
 unfold cellF
 have h1:ns.idxOf x<r.length:=by rw[hl];exact List.idxOf_lt_length_of_mem h
 rw[List.getD_eq_getElem?_getD,List.getElem?_eq_getElem h1]
 exact List.getElem_mem h1
theorem cell_out{ns:List ByteArray}{r:List V}(hl:r.length=ns.length){x:ByteArray}(h:x∉ns):cellF ns r x=nullV:=by
 unfold cellF
 rw[List.getD_eq_getElem?_getD,List.getElem?_eq_none (by rw[hl,List.idxOf_eq_length h];exact Nat.le_refl _)]
 rfl
theorem cell_may{ns:List ByteArray}{r:List V}(hr:rowB ns.length r=true)(x:ByteArray):mayV (cellF ns r x)=true:=by
 unfold rowB at hr
 rw[Bool.and_eq_true,decide_eq_true_eq,List.all_eq_true]at hr
 by_cases h:x∈ns
 ·exact hr.2 _ (cell_in hr.1 h)
 ·rw[cell_out hr.1 h];decide
theorem cells_row{ns:List ByteArray}{r:List V}(hn:ns.Nodup)(hl:r.length=ns.length):ns.map (cellF ns r)=r:=by
 apply List.ext_getElem
 ·simp[hl]
 ·intro j h1 h2
  rw[List.getElem_map]
  unfold cellF
  have hj:j<ns.length:=by simpa using h1
  have e:ns.idxOf ns[j]=j:=List.Nodup.idxOf_getElem hn j hj
  rw[e,List.getD_eq_getElem?_getD,List.getElem?_eq_getElem h2]
  rfl
theorem compat_iff(A B:List ByteArray)(r s:List V):compat A B r s=true↔∀x,x∈A→x∈B→okC (cellF A r x) (cellF B s x)=true:=by
 unfold compat
 rw[List.all_eq_true]
 constructor
 ·intro h x ha hb
  have:=h x hb
  rw[Bool.or_eq_true,Bool.not_eq_true',decide_eq_false_iff_not]at this
  rcases this with h1|h1
  ·exact absurd ha h1
  ·exact h1
 ·intro h x hb
  by_cases ha:x∈A
  ·rw[h x ha hb,Bool.or_true]
  ·rw[decide_eq_false ha];rfl
theorem orN_may{a b:V}(ha:mayV a=true)(hb:mayV b=true):mayV (orN a b)=true:=by
 unfold orN
 split
 ·exact hb
 ·exact ha
theorem joinR_may{A B:List ByteArray}{r s:List V}(hr:rowB A.length r=true)(hs:rowB B.length s=true):rowB (B.foldl addN A).length (joinR A B r s)=true:=by
 unfold rowB joinR
 rw[Bool.and_eq_true,decide_eq_true_eq,List.all_eq_true]
 refine⟨by simp,fun v hv=>?_⟩
 obtain⟨x,-,rfl⟩:=List.mem_map.1 hv
 exact orN_may (cell_may hr x) (cell_may hs x)
theorem may_rows{t:Tab}(h:mayT t=true):namesB t.vars=true∧∀r∈t.rows,rowB t.vars.length r=true:=by
 unfold mayT at h
 rw[Bool.and_eq_true,List.all_eq_true]at h
 exact h
theorem names_parts{l:List ByteArray}(h:namesB l=true):l.length≤64∧(∀x∈l,val.nameB x=true)∧l.Nodup:=by
 unfold namesB at h
 rw[Bool.and_eq_true,Bool.and_eq_true,decide_eq_true_eq,decide_eq_true_eq,List.all_eq_true]at h
 exact⟨h.1.1,h.1.2,h.2⟩
theorem names_fold{A B:List ByteArray}(ha:namesB A=true)(hb:namesB B=true)(hl:(B.foldl addN A).length≤64):namesB (B.foldl addN A)=true:=by
 obtain⟨-,a2,a3⟩:=names_parts ha
 obtain⟨-,b2,b3⟩:=names_parts hb
 unfold namesB
 rw[Bool.and_eq_true,Bool.and_eq_true,decide_eq_true_eq,decide_eq_true_eq,List.all_eq_true]
 refine⟨⟨hl,fun x hx=>?_⟩,foldN_nodup _ _ a3⟩
 rcases(mem_foldN B A).1 hx with h|h
 ·exact a2 x h
 ·exact b2 x h
theorem joinT_may{a b:Tab}(ha:mayT a=true)(hb:mayT b=true):mayT (joinT a b)=true:=by
 obtain⟨a1,a2⟩:=may_rows ha
 obtain⟨b1,b2⟩:=may_rows hb
 unfold joinT
 by_cases hl:(b.vars.foldl addN a.vars).length≤64
 ·rw[if_pos hl]
  unfold mayT
  rw[Bool.and_eq_true,List.all_eq_true]
  refine⟨names_fold a1 b1 hl,fun x hx=>?_⟩
  obtain⟨r,hr,h2⟩:=List.mem_flatMap.1 hx
  obtain⟨s,hs,h3⟩:=List.mem_filterMap.1 h2
  by_cases hc:compat a.vars b.vars r s=true
  ·rw[if_pos hc]at h3
   cases h3
   exact joinR_may (a2 r hr) (b2 s hs)
  ·rw[if_neg hc]at h3;cases h3
 ·rw[if_neg hl];decide
theorem projT_may{a:Tab}{vs:List ByteArray}(ha:mayT a=true)(hv:namesB vs=true):mayT (projT a vs)=true:=by
 obtain⟨a1,a2⟩:=may_rows ha
 unfold projT mayT
 rw[Bool.and_eq_true,List.all_eq_true]
 refine⟨hv,fun x hx=>?_⟩
 obtain⟨r,hr,rfl⟩:=List.mem_map.1 hx
 unfold rowB
 rw[Bool.and_eq_true,decide_eq_true_eq,List.all_eq_true]
 refine⟨by simp,fun v hv=>?_⟩
 obtain⟨y,-,rfl⟩:=List.mem_map.1 hv
 exact cell_may (a2 r hr) y
theorem same_self{a:Tab}(ha:mayT a=true):sameT a a=true:=same_perm ha ha rfl (List.Perm.refl _)
theorem row_len{n:Nat}{r:List V}(h:rowB n r=true):r.length=n:=by unfold rowB at h;rw[Bool.and_eq_true,decide_eq_true_eq]at h;exact h.1
theorem map_rows{t:Tab}(h:mayT t=true):t.rows.map (fun r=>t.vars.map (cellF t.vars r))=t.rows:=by
 obtain⟨h1,h2⟩:=may_rows h
 obtain⟨-,-,hn⟩:=names_parts h1
 have e:∀r∈t.rows,t.vars.map (cellF t.vars r)=r:=fun r hr=>cells_row hn (row_len (h2 r hr))
 rw[List.map_congr_left e,List.map_id']
theorem fold_self(l:List ByteArray):l.foldl addN l=l:=foldN_self l l (fun _ h=>h)
theorem union_same{a b:Tab}(ha:mayT a=true)(hb:mayT b=true)(hv:b.vars=a.vars):unionT a b=⟨a.vars,a.rows++b.rows⟩:=by
 have h64:=(names_parts (may_rows ha).1).1
 unfold unionT
 rw[hv,fold_self,if_pos h64,map_rows ha]
 have h2:=map_rows hb
 rw[hv]at h2
 rw[h2]
theorem half_may{b:Tab}(hb:mayT b=true){l:List (List V)}(hl:∀r∈l,r∈b.rows):mayT ⟨b.vars,l⟩=true:=by
 obtain⟨h1,h2⟩:=may_rows hb
 unfold mayT
 rw[Bool.and_eq_true,List.all_eq_true]
 exact⟨h1,fun r hr=>h2 r (hl r hr)⟩
theorem unionT_may{a b:Tab}(ha:mayT a=true)(hb:mayT b=true):mayT (unionT a b)=true:=by
 obtain⟨a1,a2⟩:=may_rows ha
 obtain⟨b1,b2⟩:=may_rows hb
 unfold unionT
 by_cases hl:(b.vars.foldl addN a.vars).length≤64
 ·rw[if_pos hl]
  unfold mayT
  rw[Bool.and_eq_true,List.all_eq_true]
  refine⟨names_fold a1 b1 hl,fun x hx=>?_⟩
  have hrow:∀(ns:List ByteArray) (r:List V),rowB ns.length r=true→rowB (b.vars.foldl addN a.vars).length ((b.vars.foldl addN a.vars).map (cellF ns r))=true:=fun ns r h=>by
   unfold rowB
   rw[Bool.and_eq_true,decide_eq_true_eq,List.all_eq_true]
   refine⟨by simp,fun v hv=>?_⟩
   obtain⟨y,-,rfl⟩:=List.mem_map.1 hv
   exact cell_may h y
  rcases List.mem_append.1 hx with h|h
  ·obtain⟨r,hr,rfl⟩:=List.mem_map.1 h
   exact hrow _ _ (a2 r hr)
  ·obtain⟨s,hs,rfl⟩:=List.mem_map.1 h
   exact hrow _ _ (b2 s hs)
 ·rw[if_neg hl];decide
def pairJ(A B:List ByteArray)(r s:List V):Option (List V):=if compat A B r s=true then some (joinR A B r s) else none
def rowsIJ(a b:Tab)(i j:Nat):List (List V):=
 ((a.rows.take i).flatMap fun r=>b.rows.filterMap (pairJ a.vars b.vars r))++(b.rows.take j).filterMap (pairJ a.vars b.vars (a.rows.getD i []))
theorem rowsIJ_zero(a b:Tab):rowsIJ a b 0 0=[]:=by simp[rowsIJ]
theorem rowsIJ_end(a b:Tab):rowsIJ a b a.rows.length 0=joinRows a b:=by
 unfold rowsIJ joinRows
 rw[List.take_length,List.take_zero,List.filterMap_nil,List.append_nil]
 rfl
theorem rowsIJ_next(a b:Tab){i:Nat}(h:i<a.rows.length):rowsIJ a b (i+1) 0=rowsIJ a b i b.rows.length:=by
 unfold rowsIJ
 rw[List.take_succ_eq_append_getElem h,List.flatMap_append,List.take_zero,List.filterMap_nil,List.append_nil,List.take_length]
 simp[h]
theorem rowsIJ_yes(a b:Tab){i j:Nat}(h:i<a.rows.length)(hj:j<b.rows.length)(hc:compat a.vars b.vars a.rows[i] b.rows[j]=true):rowsIJ a b i (j+1)=rowsIJ a b i j++[joinR a.vars b.vars a.rows[i] b.rows[j]]:=by
 unfold rowsIJ
 rw[List.take_succ_eq_append_getElem hj,List.filterMap_append,←List.append_assoc]
 congr 1
 simp[h,pairJ,hc]
theorem rowsIJ_no(a b:Tab){i j:Nat}(h:i<a.rows.length)(hj:j<b.rows.length)(hc:compat a.vars b.vars a.rows[i] b.rows[j]=false):rowsIJ a b i (j+1)=rowsIJ a b i j:=by
 unfold rowsIJ
 rw[List.take_succ_eq_append_getElem hj,List.filterMap_append,←List.append_assoc]
 simp[h,pairJ,hc]
theorem rowsIJ_len(a b:Tab):∀(i j:Nat),i<a.rows.length→j≤b.rows.length→(rowsIJ a b i j).length≤i * b.rows.length+j
 |0,j,h,hj=>by
  unfold rowsIJ
  simp only[List.take_zero,List.flatMap_nil,List.nil_append]
  refine Nat.le_trans (List.length_filterMap_le _ _) ?_
  rw[List.length_take]
  omega
 | i + 1, j, h, hj => by
  have ih:=rowsIJ_len a b i b.rows.length (by omega) (Nat.le_refl _)
  rw[←rowsIJ_next a b (by omega)]at ih
  have e:(rowsIJ a b (i+1) j).length≤(rowsIJ a b (i+1) 0).length+j:=by
   unfold rowsIJ
   rw[List.length_append,List.take_zero,List.filterMap_nil,List.append_nil]
   have:=List.length_filterMap_le (pairJ a.vars b.vars (a.rows.getD (i+1) [])) (b.rows.take j)
   rw[List.length_take]at this
   omega
  rw[Nat.add_mul,Nat.one_mul]
  omega
def joinZ(A B:Tab):Tab:=if mayT A=true∧mayT B=true then joinT A B else⟨[],[]⟩
theorem cell_at{ns:List ByteArray}{r:List V}(hl:r.length=ns.length){x:ByteArray}(h:x∈ns):∃h2:ns.idxOf x<r.length,r[ns.idxOf x]=cellF ns r x:=by
 have h2:ns.idxOf x<r.length:=by rw[hl];exact List.idxOf_lt_length_of_mem h
 refine⟨h2,?_⟩
 unfold cellF
 rw[List.getD_eq_getElem?_getD,List.getElem?_eq_getElem h2]
 rfl
end Go.Proofs.YtmpldjbdhbapbaaGreatDoor.tab
