/- Texts TabJn, TabJm, TabMk, one behind the other. -/
import Derived.Test.YtmpldjbdhbapbaaGreatDoorTabNmA
import Derived.Test.YtmpldjbdhbapbaaGreatDoorTabRowA
import Derived.Laws.CopyOwn
set_option linter.unusedSimpArgs false
set_option linter.unusedVariables false
namespace Go.Proofs.YtmpldjbdhbapbaaGreatDoor.tab
open Go.RowKit dec val
def outK(A B:List ByteArray)(r s:List V)(k:Nat):List V:=(B.foldl addN A).map fun x=>orN (cellF A r x) (if x∈B.take k then cellF B s x else nullV)
def okK(A B:List ByteArray)(r s:List V)(k:Nat):Prop:=∀x∈B.take k,x∈A→okC (cellF A r x) (cellF B s x)=true
def sharedK(A B:List ByteArray)(r s:List V)(k:Nat):Bool:=(B.take k).any fun x=>decide (x∈A)&&(!isN (cellF A r x)&&!isN (cellF B s x))
@[simp] theorem outK_length(A B:List ByteArray)(r s:List V)(k:Nat):(outK A B r s k).length=(B.foldl addN A).length:=by simp[outK]
theorem outK_get(A B:List ByteArray)(r s:List V)(k j:Nat)(h1:j<(outK A B r s k).length)(h2:j<(B.foldl addN A).length):(outK A B r s k)[j]=orN (cellF A r (B.foldl addN A)[j]) (if(B.foldl addN A)[j]∈B.take k then cellF B s (B.foldl addN A)[j] else nullV):=by
 simp only[outK,List.getElem_map]
theorem orN_null{a:V}(h:mayV a=true):orN a nullV=a:=by
 unfold orN
 split
 ·exact(may_null h ‹_›).symm
 ·rfl
theorem orN_isN{a b:V}(ha:mayV a=true)(hb:mayV b=true)(h:isN b=true):orN a b=a:=by rw[may_null hb h,orN_null ha]
theorem orN_of{a b:V}(h:isN a=true):orN a b=b:=by unfold orN;rw[if_pos h]
theorem orN_not{a b:V}(h:isN a=false):orN a b=a:=by unfold orN;rw[if_neg (by simp[h])]
theorem outK_end(A B:List ByteArray)(r s:List V)(hB:s.length=B.length):outK A B r s B.length=joinR A B r s:=by
 unfold outK joinR
 refine List.map_congr_left fun x hx=>?_
 rw[List.take_length]
 by_cases h:x∈B
 ·rw[if_pos h]
 ·rw[if_neg h,cell_out hB h]
theorem okK_end(A B:List ByteArray)(r s:List V):okK A B r s B.length↔compat A B r s=true:=by
 unfold okK
 rw[List.take_length,compat_iff]
 exact⟨fun h x h1 h2=>h x h2 h1,fun h x h1 h2=>h x h2 h1⟩
theorem sharedK_end(A B:List ByteArray)(r s:List V):sharedK A B r s B.length=shared A B r s:=by
 unfold sharedK shared
 rw[List.take_length]
theorem outK_zero(A B:List ByteArray)(r s:List V)(hA:A.Nodup)(hr:rowB A.length r=true):outK A B r s 0=r++List.replicate ((B.foldl addN A).length-r.length) nullV:=by
 have hl:r.length=A.length:=by
  unfold rowB at hr
  simp only[Bool.and_eq_true,decide_eq_true_eq]at hr
  exact hr.1
 have hz:outK A B r s 0=(B.foldl addN A).map (cellF A r):=by
  unfold outK
  refine List.map_congr_left fun x hx=>?_
  simp only[List.take_zero,List.not_mem_nil,if_false]
  exact orN_null (cell_may hr x)
 obtain⟨m,hm⟩:=foldN_prefix B A
 rw[hz]
 apply List.ext_getElem
 ·simp only[List.length_map,List.length_append,List.length_replicate]
  rw[hm,List.length_append]
  omega
 ·intro j h1 h2
  rw[List.getElem_map]
  by_cases hj:j<r.length
  ·rw[List.getElem_append_left hj]
   have e1:(B.foldl addN A)[j]'(by simpa using h1)=A[j]'(by omega):=by
    simp only[hm]
    rw[List.getElem_append_left (by omega)]
   rw[e1]
   unfold cellF
   rw[hA.idxOf_getElem]
   simp[hj]
  ·rw[List.getElem_append_right (by omega),List.getElem_replicate]
   have hjl:j<(B.foldl addN A).length:=by simpa using h1
   have e1:(B.foldl addN A)[j]∉A:=by
    intro hin
    have hn:=foldN_nodup B A hA
    have hjm:A.length+(j-A.length)=j:=by omega
    simp only[hm]at hin hn hjl
    rw[List.getElem_append_right (by omega)]at hin
    rw[List.nodup_append]at hn
    exact hn.2.2 _ hin _ (List.getElem_mem _) rfl
   exact cell_out hl e1
theorem step_at{A B:List ByteArray}{k:Nat}(h:k<B.length):(B.foldl addN A).idxOf B[k]<(B.foldl addN A).length:=
 List.idxOf_lt_length_iff.2 ((mem_foldN B A).2 (.inr (List.getElem_mem h)))
theorem step_in{A B:List ByteArray}{k:Nat}(h:k<B.length):(B.foldl addN A).idxOf B[k]<A.length↔B[k]∈A:=by
 obtain⟨m,hm⟩:=foldN_prefix B A
 rw[hm,List.idxOf_append]
 by_cases hin:B[k]∈A
 ·rw[if_pos hin]
  exact⟨fun _=>hin,fun _=>List.idxOf_lt_length_iff.2 hin⟩
 ·rw[if_neg hin]
  exact⟨fun h=>by omega,fun h=>(hin h).elim⟩
theorem not_before{B:List ByteArray}(hB:B.Nodup){k:Nat}(h:k<B.length):B[k]∉B.take k:=by
 intro hin
 obtain⟨j,hj,e⟩:=List.mem_iff_getElem.1 hin
 rw[List.length_take]at hj
 rw[List.getElem_take]at e
 have h1:=hB.idxOf_getElem j (by omega)
 have h2:=hB.idxOf_getElem k h
 rw[e]at h1
 omega
theorem step_cell{B:List ByteArray}{s:List V}(hB:B.Nodup)(hl:s.length=B.length){k:Nat}(h:k<B.length):cellF B s B[k]=s[k]'(by omega):=by
 unfold cellF
 rw[hB.idxOf_getElem]
 simp[show k<s.length by omega]
theorem step_get{A B:List ByteArray}{r s:List V}(hA:A.Nodup)(hB:B.Nodup)(hr:rowB A.length r=true){k:Nat}(h:k<B.length):(outK A B r s k)[(B.foldl addN A).idxOf B[k]]'(by rw[outK_length];exact step_at h)=cellF A r B[k]:=by
 rw[outK_get _ _ _ _ _ _ _ (step_at h),List.getElem_idxOf,if_neg (not_before hB h)]
 exact orN_null (cell_may hr _)
theorem step_out{A B:List ByteArray}{r s:List V}(hA:A.Nodup)(hB:B.Nodup)(hl:s.length=B.length)(hr:rowB A.length r=true){k:Nat}(h:k<B.length):outK A B r s (k+1)=(outK A B r s k).set ((B.foldl addN A).idxOf B[k]) (orN (cellF A r B[k]) (s[k]'(by omega))):=by
 have hn:=foldN_nodup B A hA
 apply List.ext_getElem
 ·simp
 ·intro j h1 h2
  have hj:j<(B.foldl addN A).length:=by simpa using h1
  rw[List.getElem_set]
  by_cases he:(B.foldl addN A).idxOf B[k]=j
  ·rw[if_pos he]
   have hx:(B.foldl addN A)[j]=B[k]:=by
    subst he
    exact List.getElem_idxOf _
   rw[outK_get _ _ _ _ _ _ _ hj,hx,if_pos (by rw[List.take_succ_eq_append_getElem h];exact List.mem_append_right _ (List.mem_singleton.2 rfl)),step_cell hB hl h]
  ·rw[if_neg he]
   have hx:(B.foldl addN A)[j]≠B[k]:=by
    intro e
    apply he
    rw[←e,hn.idxOf_getElem]
   rw[outK_get _ _ _ _ _ _ _ hj,outK_get _ _ _ _ _ _ _ hj]
   have:((B.foldl addN A)[j]∈B.take (k+1))↔((B.foldl addN A)[j]∈B.take k):=by
    rw[List.take_succ_eq_append_getElem h,List.mem_append,List.mem_singleton]
    exact⟨fun h=>h.resolve_right hx,.inl⟩
   simp only[this]
theorem step_shared{A B:List ByteArray}{r s:List V}(hB:B.Nodup)(hl:s.length=B.length){k:Nat}(h:k<B.length):sharedK A B r s (k+1)=(sharedK A B r s k||(decide (B[k]∈A)&&(!isN (cellF A r B[k])&&!isN (s[k]'(by omega))))):=by
 unfold sharedK
 rw[List.take_succ_eq_append_getElem h,List.any_append]
 simp[step_cell hB hl h]
theorem step_ok{A B:List ByteArray}{r s:List V}(hB:B.Nodup)(hl:s.length=B.length){k:Nat}(h:k<B.length):okK A B r s (k+1)↔okK A B r s k∧(B[k]∈A→okC (cellF A r B[k]) (s[k]'(by omega))=true):=by
 unfold okK
 rw[List.take_succ_eq_append_getElem h]
 constructor
 ·intro g
  refine⟨fun x hx=>g x (List.mem_append_left _ hx),fun hin=>?_⟩
  have:=g B[k] (List.mem_append_right _ (List.mem_singleton.2 rfl)) hin
  rwa [step_cell hB hl h]at this
 ·rintro⟨g1,g2⟩ x hx hin
  rcases List.mem_append.1 hx with hx|hx
  ·exact g1 x hx hin
  ·obtain rfl:=List.mem_singleton.1 hx
   rw[step_cell hB hl h]
   exact g2 hin
open Go.ChangeShapes Go.WideShapes Go.ChangeAt kit
open hyp (RowA TextsA CellsStay stay_of_below textsV own_row)
theorem run_copy_wide{P:Program}(w:World)(dT sT ty elem:TypeId)(sz g o dLen dCap:Nat)(a:Addr)(sLen sCap:Nat)(cur:Array Value)(t:TypeId)(cs:List Value)
 (hu:P.underlying dT=some (.slice elem))(hs:(P.info? elem).map (·.size)=some sz)
 (hg:w.heap[g]? = some (.cells cur t (0,0)))(hn:cs.length=Nat.min sLen dLen * sz)
 (hsrc:∀j v,cs[j]? = some v→w.cell? (a.add j)=some v)(hfit:o+cs.length≤cur.size)(h1:∀v∈cs,v.oneCell'=true):
 (Builtin.copy_ #[dT,sT] ty #[.slice (some ⟨g,o,none⟩) dLen dCap,.slice (some a) sLen sCap]).run P w =
  .ok (goInt (Nat.min sLen dLen)) (w.setRow g (cur.toList.take o++cs++cur.toList.drop (o+cs.length)).toArray):=by
 have hl:=run_loadCells_list (P:=P) w a cs hsrc
 have hst:=run_storeCells_at P g o t cs 0 cur w hg (by simpa using hfit) h1
 cases hq:P.info? elem with
 |none=>simp[hq]at hs
 |some i=>
  have hi:i.size=sz:=by simpa[hq]using hs
  simp[Builtin.copy_,run_underlying hu,Builtin.lenOf,Builtin.firstCells,sizeOf,typeInfo,hq,hi,←hn,hl,hst]
theorem run_copy_wide0{P:Program}(w:World)(dT sT ty elem:TypeId)(sz:Nat)(d a:Option Addr)(dLen dCap sLen sCap:Nat)(hu:P.underlying dT=some (.slice elem))(hs:(P.info? elem).map (·.size)=some sz)(hn:Nat.min sLen dLen=0):
 (Builtin.copy_ #[dT,sT] ty #[.slice d dLen dCap,.slice a sLen sCap]).run P w=.ok (goInt 0) w:=by
 cases hq:P.info? elem with
 |none=>simp[hq]at hs
 |some i=>
  have hl:∀(x:Addr),(loadCells x 0).run P w=.ok #[] w:=fun x=>by simpa using run_loadCells_list (P:=P) w x [] (by simp)
  cases d<;>cases a<;>simp[Builtin.copy_,run_underlying hu,Builtin.lenOf,Builtin.firstCells,sizeOf,typeInfo,hq,hn,storeCells,hl]
def sixE(k:Int)(b:Bool)(n:Int)(t x:ByteArray)(s:Value):List Value:=[.int .i64 k,.bool b,.int .i64 n,.string t,.string x,s]
def JO(w0 w:World)(N g:Nat)(l:List V):Prop:=
 ∃cs:Array Value,Blk w g cs 34∧cs.size=6 * l.length ∧
  ∀j (hj:j<l.length),∃k b n t x l1 s,l[j]=.mk k b n t x l1∧okV N (.mk k b n t x l1)∧LA w0 N s l1∧∀i,i<6→cs[6 * j+i]? = (sixE k b n t x s)[i]?
theorem JO.alloc{w0 w:World}{N g:Nat}{l:List V}(h:JO w0 w N g l)(o:Obj):JO w0 (w.alloc o) N g l:=by
 obtain⟨cs,h1,h2⟩:=h
 exact⟨cs,h1.alloc o,h2⟩
theorem JO.stay{w0 w w':World}{N g:Nat}{l:List V}(h:JO w0 w N g l)(hb:Below w.heap.size w w'):JO w0 w' N g l:=by
 obtain⟨cs,h1,h2⟩:=h
 exact⟨cs,(hb.block g h1.lt).trans h1,h2⟩
theorem JO.row{w0 w:World}{N g:Nat}{l:List V}(h:JO w0 w N g l)(j:Nat)(hj:j<l.length):∃k b n t x l1 s,l[j]=.mk k b n t x l1∧okV N (.mk k b n t x l1)∧LA w0 N s l1∧Row6 w g (j * 6) k b n t x s:=by
 obtain⟨cs,h1,h2,h3⟩:=h
 obtain⟨k,b,n,t,x,l1,s,e,ho,hl,hc⟩:=h3 j hj
 refine⟨k,b,n,t,x,l1,s,e,ho,hl,?_⟩
 rw[Nat.mul_comm]at hc
 exact⟨h1.lt,h1.cell _ (hc 0 (by omega)),h1.cell _ (hc 1 (by omega)),h1.cell _ (hc 2 (by omega)),h1.cell _ (hc 3 (by omega)),h1.cell _ (hc 4 (by omega)),h1.cell _ (hc 5 (by omega))⟩
theorem JO.read{w0 w:World}{N g c:Nat}{l:List V}(h:JO w0 w N g l)(hl:l.length≤N)(hb:Below w0.heap.size w0 w):LA w N (.slice (some ⟨g,0,none⟩) l.length c) l:=by
 refine .mk _ _ _ hl fun j hj=>?_
 obtain⟨k,b,n,t,x,l1,s,e,ho,hla,hr⟩:=h.row j hj
 rw[e]
 exact .mk _ _ _ _ _ _ _ _ _ _ (by rw[Nat.zero_add,Nat.mul_comm];exact hr) ho.1 ho.2.1 ho.2.2.1 ho.2.2.2 (hla.stay hb)
theorem JO.set{w0 w:World}{N g:Nat}{l:List V}(h:JO w0 w N g l)(i:Nat)(hi:i<l.length)(k:Int)(b:Bool)(n:Int)(t x:ByteArray)(l1:List V)(s:Value)(ho:okV N (.mk k b n t x l1))(hl1:LA w0 N s l1):
 JO w0 ((((((w.setCell ⟨g,i * 6,none⟩ (.int .i64 k)).setCell ⟨g,i * 6+1,none⟩ (.bool b)).setCell ⟨g,i * 6+2,none⟩ (.int .i64 n)).setCell ⟨g,i * 6+3,none⟩ (.string t)).setCell ⟨g,i * 6+4,none⟩ (.string x)).setCell ⟨g,i * 6+5,none⟩ s) N g (l.set i (.mk k b n t x l1)):=by
 obtain⟨cs,h1,h2,h3⟩:=h
 refine⟨_,(((((h1.set (i * 6) _).set (i * 6+1) _).set (i * 6+2) _).set (i * 6+3) _).set (i * 6+4) _).set (i * 6+5) _,by simp[h2],fun j hj=>?_⟩
 rw[List.length_set]at hj
 by_cases he:i=j
 ·subst he
  refine⟨k,b,n,t,x,l1,s,by simp,ho,hl1,fun m hm=>?_⟩
  match m,hm with
  |0,_=>simp[Array.getElem?_setIfInBounds,sixE,Nat.mul_comm];omega
  |1,_=>simp[Array.getElem?_setIfInBounds,sixE,Nat.mul_comm];omega
  |2,_=>simp[Array.getElem?_setIfInBounds,sixE,Nat.mul_comm];omega
  |3,_=>simp[Array.getElem?_setIfInBounds,sixE,Nat.mul_comm];omega
  |4,_=>simp[Array.getElem?_setIfInBounds,sixE,Nat.mul_comm];omega
  |5,_=>simp[Array.getElem?_setIfInBounds,sixE,Nat.mul_comm];omega
 ·obtain⟨k2,b2,n2,t2,x2,l2,s2,e,ho2,hla,hc⟩:=h3 j hj
  refine⟨k2,b2,n2,t2,x2,l2,s2,by rw[List.getElem_set_ne he];exact e,ho2,hla,fun m hm=>?_⟩
  rw[←hc m hm]
  simp only[Array.getElem?_setIfInBounds]
  repeat rw[if_neg (by omega)]
theorem JO.zero(w0 w:World)(N n:Nat):JO w0 (w.alloc (.cells (zeroCells n) 34)) N w.heap.size (List.replicate n nullV):=by
 refine⟨_,Blk.new _ _ _,?_,fun j hj=>?_⟩
 ·rw[List.length_replicate,Nat.mul_comm];exact size_madeCells _ _
 ·have hj2:j<n:=by simpa using hj
  refine⟨0,false,0,⟨#[]⟩,⟨#[]⟩,[],.slice none 0 0,by simp[nullV],?_,.mk none 0 [] (Nat.zero_le _) (fun j hj=>by simp at hj),fun i hi=>?_⟩
  ·unfold okV In64
   exact⟨by omega,by omega,Nat.zero_le _,Nat.zero_le _⟩
  ·have h1:6 * j+i<n * 6:=by omega
   have h2:(6 * j+i) % 6=i:=by omega
   match i,hi with
   |0,_=>
    have h3:6 * j<n * 6:=by omega
    have h4:6 * j % 6=0:=by omega
    simp[zeroCells,madeCells,h3,sixE]
   |1,_=>simp[zeroCells,madeCells,h1,h2,sixE]
   |2,_=>simp[zeroCells,madeCells,h1,h2,sixE]
   |3,_=>simp[zeroCells,madeCells,h1,h2,sixE];rfl
   |4,_=>simp[zeroCells,madeCells,h1,h2,sixE];rfl
   |5,_=>simp[zeroCells,madeCells,h1,h2,sixE]
theorem cells_of{w:World}{N cap b off:Nat}{A:List V}(h:LA w N (.slice (some ⟨b,off,none⟩) A.length cap) A):∀m,m≤A.length→∃cs:List Value,cs.length=6 * m∧(∀j v,cs[j]? = some v→w.cell? ⟨b,off+j,none⟩=some v)∧(∀v∈cs,v.oneCell'=true) ∧
 ∀j (hj:j<A.length),j<m→∃k bo n t x l1 s,A[j]=.mk k bo n t x l1∧okV N (.mk k bo n t x l1)∧LA w N s l1∧∀i,i<6→cs[6 * j+i]? = (sixE k bo n t x s)[i]?
 |0,_=>⟨[],rfl,fun j v h=>by simp at h,fun v h=>by simp at h,fun j _ h=>by omega⟩
 | m + 1, hm => by
  obtain⟨cs,h1,h2,h3,h4⟩:=cells_of h m (by omega)
  obtain⟨b1,o1,k,bo,n,t,x,l1,aoE,capE,e,he,hr,ho,hl⟩:=la_at h m (by omega)
  injection e with e
  injection e with e1 e2
  subst e1 e2
  refine⟨cs++sixE k bo n t x (.slice aoE l1.length capE),by rw[List.length_append,h1];simp[sixE];omega,fun j v hv=>?_,fun v hv=>?_,fun j hj hjm=>?_⟩
  ·by_cases hlt:j<cs.length
   ·rw[List.getElem?_append_left hlt]at hv
    exact h2 j v hv
   ·rw[List.getElem?_append_right (by omega)]at hv
    obtain⟨i,hi⟩:∃i,j=m * 6+i:=⟨j-m * 6,by omega⟩
    rw[hi,h1,show m * 6+i-6 * m=i by omega]at hv
    rw[hi,show off+(m * 6+i)=off+m * 6+i by omega]
    match i,hv with
    |0,hv=>simp[sixE]at hv;rw[←hv];exact hr.c0
    |1,hv=>simp[sixE]at hv;rw[←hv];exact hr.c1
    |2,hv=>simp[sixE]at hv;rw[←hv];exact hr.c2
    |3,hv=>simp[sixE]at hv;rw[←hv];exact hr.c3
    |4,hv=>simp[sixE]at hv;rw[←hv];exact hr.c4
    |5,hv=>simp[sixE]at hv;rw[←hv];exact hr.c5
    |i+6,hv=>simp[sixE]at hv
  ·rcases List.mem_append.1 hv with hv|hv
   ·exact h3 v hv
   ·simp[sixE]at hv
    rcases hv with rfl|rfl|rfl|rfl|rfl|rfl<;>rfl
  ·by_cases hlt:j<m
   ·obtain⟨k2,b2,n2,t2,x2,l2,s2,e,ho2,hla,hc⟩:=h4 j hj hlt
    refine⟨k2,b2,n2,t2,x2,l2,s2,e,ho2,hla,fun i hi=>?_⟩
    rw[List.getElem?_append_left (by omega)]
    exact hc i hi
   ·obtain rfl:j=m:=by omega
    refine⟨k,bo,n,t,x,l1,_,he,ho,hl,fun i hi=>?_⟩
    rw[List.getElem?_append_right (by omega),h1,show 6 * j+i-6 * j=i by omega]
theorem infoValS:(Tryz.prog.info? 34).map (·.size)=some 6:=by kernel_rfl
theorem wpList_copyJ{w:World}{ops:Array Oper}{rest:List Oper}{o:Oper}{a:Act}{Q:Exit→Act→World→Prop}(hgd:o.guard=none)(d s:Operand)
 (ho:o.op=.call { callee:=.builtin .copy,args:=#[d,s],argTypes:=#[32,32] })
 (w0:World)(N g n c:Nat)(hd:a.eval d=.slice (some ⟨g,0,none⟩) n c)(l:List V)(hln:l.length=n)(hJ:JO w0 w N g l)
 (ao:Option Addr)(cap:Nat)(A:List V)(hs:a.eval s=.slice ao A.length cap)(hA:LA w0 N (.slice ao A.length cap) A)(hb:Below w0.heap.size w0 w)(hle:A.length≤n)(hBg:w0.heap.size≤g)
 (hK:∀w',JO w0 w' N g (A++l.drop A.length)→Below w0.heap.size w0 w'→w'.heap.size=w.heap.size→(∀k,k≠g→w'.heap[k]? = w.heap[k]?)→wpList Tryz.prog ops Q rest (a.put o.dst (goInt A.length)) w'):
 wpList Tryz.prog ops Q (o::rest) a w:=by
 have hmin:Nat.min A.length n=A.length:=Nat.min_eq_left hle
 by_cases h0:A.length=0
 ·have hA0:A=[]:=List.eq_nil_of_length_eq_zero h0
  refine wpList_plain hgd fun K hK2=>?_
  have hrun:=run_copy_wide0 (P:=Tryz.prog) w 32 32 o.type 34 6 (some ⟨g,0,none⟩) ao n c A.length cap Tryz.underlying32 infoValS (by rw[hmin];exact h0)
  have hfin:=hK w (by subst hA0;simpa using hJ) hb rfl (fun _ _=>rfl)
  unfold Oper.wp
  simp only[execOp,ho,resolve,invoke,builtin,hd,hs,hrun,Sem.run_bind,Sem.run_pure,Result.andThen_ok,List.map_toArray,List.map_cons,List.map_nil]
  rw[h0]at hfin
  exact hK2 _ _ hfin
 ·obtain⟨b,off,-,-,-,-,-,-,-,-,rfl,-⟩:=la_at hA 0 (by omega)
  obtain⟨cs,h1,h2,h3,h4⟩:=cells_of hA A.length (Nat.le_refl _)
  obtain⟨cur,j1,j2,j3⟩:=hJ
  have hbl:b<w0.heap.size:=by
   obtain⟨b1,o1,k,bo,n,t,x,l1,aoE,capE,e,he,hr,-⟩:=la_at hA 0 (by omega)
   injection e with e
   injection e with e1 e2
   rw[e1];exact hr.lt
  have hsrc:∀j v,cs[j]? = some v→w.cell? ((⟨b,off,none⟩:Addr).add j)=some v:=fun j v hv=>by
   have hadd:(⟨b,off,none⟩:Addr).add j=⟨b,off+j,none⟩:=by unfold Addr.add;split<;>simp_all
   rw[hadd]
   have:=h2 j v hv
   unfold World.cell? at this ⊢
   simp only[hb.block b hbl]
   exact this
  refine wpList_plain hgd fun K hK2=>?_
  have hrun:=run_copy_wide (P:=Tryz.prog) w 32 32 o.type 34 6 g 0 n c ⟨b,off,none⟩ A.length cap cur 34 cs Tryz.underlying32 infoValS j1.eq (by rw[hmin,h1,Nat.mul_comm]) hsrc (by omega) h3
  rw[hmin]at hrun
  have hfin:=hK _ ⟨_,j1.setRow (cs':=(cur.toList.take 0++cs++cur.toList.drop (0+cs.length)).toArray),by simp[h1,j2];omega,fun j hj=>?_⟩ (below_setRow hb hBg _) (by simp[World.setRow]) (fun k hk=>_root_.Go.setRow_other w g k _ hk)
  ·unfold Oper.wp
   simp only[execOp,ho,resolve,invoke,builtin,hd,hs,hrun,Sem.run_bind,Sem.run_pure,Result.andThen_ok,List.map_toArray,List.map_cons,List.map_nil]
   exact hK2 _ _ hfin
  ·by_cases hlt:j<A.length
   ·obtain⟨k2,b2,n2,t2,x2,l2,s2,e,ho2,hla,hc⟩:=h4 j hlt hlt
    refine⟨k2,b2,n2,t2,x2,l2,s2,by rw[List.getElem_append_left hlt];exact e,ho2,hla,fun i hi=>?_⟩
    rw[←hc i hi]
    rw[List.getElem?_toArray,List.take_zero,List.nil_append,List.getElem?_append_left (by omega)]
   ·rw[List.length_append,List.length_drop]at hj
    obtain⟨k2,b2,n2,t2,x2,l2,s2,e,ho2,hla,hc⟩:=j3 j (by omega)
    refine⟨k2,b2,n2,t2,x2,l2,s2,?_,ho2,hla,fun i hi=>?_⟩
    ·rw[List.getElem_append_right (by omega),List.getElem_drop,←e]
     simp only[show A.length+(j-A.length)=j by omega]
    ·rw[←hc i hi]
     rw[List.getElem?_toArray,List.take_zero,List.nil_append,List.getElem?_append_right (by omega),List.getElem?_drop,show 0+cs.length+(6 * j+i-cs.length)=6 * j+i by omega,Array.getElem?_toList]
open hyp (RowA TextsA CellsStay stay_of_below textsV textsV_length own_row)
def numV9(n:Int):V:=.mk 2 false n ⟨#[]⟩ ⟨#[]⟩ []
def num6(n:Int):List Value:=[.int .i64 2,.bool false,.int .i64 n,.string ⟨#[]⟩,.string ⟨#[]⟩,.slice none 0 0]
theorem la_nil(w:World)(N:Nat):LA w N (.slice none 0 0) []:=.mk none 0 [] (Nat.zero_le _) (fun j hj=>by simp at hj)
theorem ok_num(N:Nat)(n:Int)(h:In64 n):okV N (numV9 n):=by
 unfold okV numV9 In64 at *
 exact⟨by omega,h,Nat.zero_le _,Nat.zero_le _⟩
theorem la_num1{w:World}{N g c:Nat}{n:Int}(hN:2≤N)(h:Blk w g (num6 n).toArray 34)(hn:In64 n):LA w N (.slice (some ⟨g,0,none⟩) 1 c) [numV9 n]:=by
 have hJ:JO w w N g [numV9 n]:=⟨_,h,rfl,fun j hj=>by
  obtain rfl:j=0:=by simpa using hj
  refine⟨2,false,n,⟨#[]⟩,⟨#[]⟩,[],.slice none 0 0,rfl,ok_num N n hn,la_nil w N,fun i hi=>?_⟩
  match i,hi with
  |0,_=>rfl
  |1,_=>rfl
  |2,_=>rfl
  |3,_=>rfl
  |4,_=>rfl
  |5,_=>rfl⟩
 exact hJ.read (by simp;omega) (Below.refl _ _)
theorem la_num2{w:World}{N g c:Nat}{n m:Int}(hN:2≤N)(h:Blk w g (num6 n++num6 m).toArray 34)(hn:In64 n)(hm:In64 m):LA w N (.slice (some ⟨g,0,none⟩) 2 c) [numV9 n,numV9 m]:=by
 have hJ:JO w w N g [numV9 n,numV9 m]:=⟨_,h,rfl,fun j hj=>by
  have hj2:j<2:=by simpa using hj
  match j,hj2 with
  |0,_=>
   refine⟨2,false,n,⟨#[]⟩,⟨#[]⟩,[],.slice none 0 0,rfl,ok_num N n hn,la_nil w N,fun i hi=>?_⟩
   match i,hi with
   |0,_=>rfl
   |1,_=>rfl
   |2,_=>rfl
   |3,_=>rfl
   |4,_=>rfl
   |5,_=>rfl
  |1,_=>
   refine⟨2,false,m,⟨#[]⟩,⟨#[]⟩,[],.slice none 0 0,rfl,ok_num N m hm,la_nil w N,fun i hi=>?_⟩
   match i,hi with
   |0,_=>rfl
   |1,_=>rfl
   |2,_=>rfl
   |3,_=>rfl
   |4,_=>rfl
   |5,_=>rfl⟩
 exact hJ.read (by simp;omega) (Below.refl _ _)
theorem row_blk{w:World}{g:Nat}{L:List Value}{ty:TypeId}(h:Blk w g L.toArray ty)(h0:0<L.length)(c:Nat)(hc:L.length≤c):RowA w w.heap.size (.slice (some ⟨g,0,none⟩) L.length c) L:=
 .inr ⟨g,0,c,rfl,h0,hc,h.lt,fun j hj=>by
  rw[Nat.zero_add]
  exact h.cell j (by rw[List.getElem?_toArray,List.getElem?_eq_getElem hj])⟩
theorem texts_blk{w:World}{g:Nat}{l:List ByteArray}(h:Blk w g (textsV l).toArray 9)(h0:0<l.length)(hs:∀s∈l,s.size≤maxLen):TextsA w w.heap.size (.slice (some ⟨g,0,none⟩) l.length l.length) l:=
 ⟨by have:=row_blk h (by simpa using h0) l.length (by simp);rw[textsV_length]at this;exact this,hs⟩
theorem rows_blk{w:World}{N g:Nat}{vs:List Value}{rs:List (List V)}(h:Blk w g vs.toArray 32)(hl:vs.length=rs.length)(h0:0<vs.length)(hv:∀j (h:j<vs.length) (h':j<rs.length),LA w N vs[j] rs[j]):RowsA w N (.slice (some ⟨g,0,none⟩) vs.length vs.length) rs:=
 ⟨vs,hl,row_blk h h0 _ (Nat.le_refl _),hv⟩
end Go.Proofs.YtmpldjbdhbapbaaGreatDoor.tab
