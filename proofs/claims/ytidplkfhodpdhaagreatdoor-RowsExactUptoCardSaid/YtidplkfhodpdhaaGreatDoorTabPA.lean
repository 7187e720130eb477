/- Texts HMemA, TabPA, one behind the other. -/
import Derived.Laws.AppendOwn
import Derived.Test.YtidplkfhodpdhaaGreatDoorValBA
set_option linter.unusedSimpArgs false
set_option linter.unusedVariables false
set_option maxRecDepth 100000
set_option maxHeartbeats 4000000
namespace Go.Proofs.YtidplkfhodpdhaaGreatDoor.hyp
open Go.ChangeShapes Go.WideShapes Go.ChangeAt Go.RowKit kit
def RowA(w:World)(B:Nat)(v:Value)(L:List Value):Prop:=
 (∃ao cap,v=.slice ao 0 cap∧L=[])∨∃b off cap,v=.slice (some ⟨b,off,none⟩) L.length cap∧0<L.length∧L.length≤cap∧b<B∧∀j (h:j<L.length),w.cell? ⟨b,off+j,none⟩=some L[j]
theorem cell_heap{w w':World}{k i:Nat}(h:w'.heap[k]? = w.heap[k]?):w'.cell? ⟨k,i,none⟩=w.cell? ⟨k,i,none⟩:=by
 unfold World.cell?
 simp only[h]
def CellsStay(w w':World):Prop:=∀(k:Nat) (o:Obj),w.heap[k]? = some o→o.isCells=true→w'.heap[k]? = w.heap[k]?
theorem CellsStay.cell{w w':World}(h:CellsStay w w'){k i:Nat}{v:Value}(hc:w.cell? ⟨k,i,none⟩=some v):w'.cell? ⟨k,i,none⟩=some v:=by
 obtain⟨o,ho,hi⟩:=cells_of_cell hc
 exact(cell_heap (h k o ho hi)).trans hc
theorem CellsStay.refl(w:World):CellsStay w w:=fun _ _ _ _=>rfl
theorem CellsStay.trans{a b c:World}(h:CellsStay a b)(k:CellsStay b c):CellsStay a c:=fun i o ho hi=>(k i o ((h i o ho hi).trans ho) hi).trans (h i o ho hi)
theorem stay_of_below{w w':World}(h:Below w.heap.size w w'):CellsStay w w':=fun k o ho _=>h.block k (Array.getElem?_eq_some_iff.1 ho).1
theorem _root_.Go.Proofs.YtidplkfhodpdhaaGreatDoor.sB{w w':World}(h:Below w.heap.size w w'){k i:Nat}{v:Value}(hc:w.cell? ⟨k,i,none⟩=some v):w'.cell? ⟨k,i,none⟩=some v:=(stay_of_below h).cell hc
theorem RowA.stay{w w':World}{B:Nat}{v:Value}{L:List Value}(h:RowA w B v L)(hs:CellsStay w w'):RowA w' B v L:=by
 rcases h with h|⟨b,off,cap,hv,h0,hc,hB,hj⟩
 ·exact .inl h
 ·exact .inr ⟨b,off,cap,hv,h0,hc,hB,fun j h=>hs.cell (hj j h)⟩
theorem RowA.mono{w:World}{B B':Nat}{v:Value}{L:List Value}(h:RowA w B v L)(hB:B≤B'):RowA w B' v L:=by
 rcases h with h|⟨b,off,cap,hv,h0,hc,hb,hj⟩
 ·exact .inl h
 ·exact .inr ⟨b,off,cap,hv,h0,hc,by omega,hj⟩
theorem RowA.form{w:World}{B:Nat}{v:Value}{L:List Value}(h:RowA w B v L):∃ao cap,v=.slice ao L.length cap∧True∧∀j (hj:j<L.length),∃b off,ao=some ⟨b,off,none⟩∧b<B∧w.cell? ⟨b,off+j,none⟩=some L[j]:=by
 rcases h with⟨ao,cap,rfl,rfl⟩|⟨b,off,cap,rfl,h0,hc,hb,hj⟩
 ·exact⟨ao,cap,rfl,trivial,fun j hj=>by simp at hj⟩
 ·refine⟨_,cap,rfl,trivial,fun j h=>⟨b,off,rfl,hb,hj j h⟩⟩
theorem own_row{w:World}{B:Nat}{e:TypeId}{v:Value}{L:List Value}(h:w.ownsRow B e 1 v L.length L):RowA w w.heap.size v L:=by
 rcases h.2 with⟨hv,hn⟩|⟨g,cap,cur,hv,hg,hh,hc,_⟩
 ·exact .inl ⟨none,0,by rw[hv],List.eq_nil_of_length_eq_zero hn⟩
 ·by_cases h0:L=[]
  ·subst h0;exact .inl ⟨_,cap,hv,rfl⟩
  ·have hpos:=List.length_pos_iff.2 h0
   subst hv
   refine .inr ⟨g,0,cap,rfl,hpos,hc,(Array.getElem?_eq_some_iff.1 hh).1,fun j hj=>?_⟩
   rw[Nat.zero_add,h.cellAt j (by omega)]
   rw[List.getElem?_eq_getElem hj]
theorem RowA.news{w:World}{b off:Nat}{L:List Value}(hc:∀j (h:j<L.length),w.cell? ⟨b,off+j,none⟩=some L[j]):∀j u,L[j]? = some u→w.cell? ((⟨b,off,none⟩:Addr).add j)=some u:=by
 intro j u hu
 obtain⟨hj,rfl⟩:=List.getElem?_eq_some_iff.1 hu
 have hadd:(⟨b,off,none⟩:Addr).add j=⟨b,off+j,none⟩:=by unfold Addr.add;split<;>simp_all
 rw[hadd]
 exact hc j hj
def textsV(l:List ByteArray):List Value:=l.map .string
def masksV(l:List Nat):List Value:=l.map fun(s:Nat)=>.int .u16 (s:Int)
def numsV(l:List Int):List Value:=l.map (.int .i64)
@[simp] theorem textsV_length(l:List ByteArray):(textsV l).length=l.length:=by simp[textsV]
@[simp] theorem masksV_length(l:List Nat):(masksV l).length=l.length:=by simp[masksV]
@[simp] theorem numsV_length(l:List Int):(numsV l).length=l.length:=by simp[numsV]
structure TextsA(w:World)(B:Nat)(v:Value)(l:List ByteArray):Prop where
 row:RowA w B v (textsV l)
 size:∀s∈l,s.size≤maxLen
theorem TextsA.stay{w w':World}{B:Nat}{v:Value}{l:List ByteArray}(h:TextsA w B v l)(hs:CellsStay w w'):TextsA w' B v l:=⟨h.row.stay hs,h.size⟩
theorem TextsA.mono{w:World}{B B':Nat}{v:Value}{l:List ByteArray}(h:TextsA w B v l)(hB:B≤B'):TextsA w B' v l:=⟨h.row.mono hB,h.size⟩
theorem TextsA.form{w:World}{B:Nat}{v:Value}{l:List ByteArray}(h:TextsA w B v l):∃ao cap,v=.slice ao l.length cap∧∀j (hj:j<l.length),∃b off,ao=some ⟨b,off,none⟩∧b<B∧w.cell? ⟨b,off+j,none⟩=some (.string l[j]):=by
 obtain⟨ao,cap,hv,-,hj⟩:=h.row.form
 refine⟨ao,cap,by rw[hv,textsV_length],fun j h=>?_⟩
 obtain⟨b,off,h1,h2,h3⟩:=hj j (by simpa using h)
 exact⟨b,off,h1,h2,by rw[h3];simp[textsV]⟩
def EdgesA(w:World)(B:Nat)(v:Value)(E:List (List ByteArray)):Prop:=
 ∃vs:List Value,vs.length=E.length∧RowA w B v vs∧∀j (h:j<E.length) (h':j<vs.length),TextsA w B vs[j] E[j]
theorem EdgesA.stay{w w':World}{B:Nat}{v:Value}{E:List (List ByteArray)}(h:EdgesA w B v E)(hs:CellsStay w w'):EdgesA w' B v E:=by
 obtain⟨vs,h1,h2,h3⟩:=h
 exact⟨vs,h1,h2.stay hs,fun j h h'=>(h3 j h h').stay hs⟩
theorem EdgesA.mono{w:World}{B B':Nat}{v:Value}{E:List (List ByteArray)}(h:EdgesA w B v E)(hB:B≤B'):EdgesA w B' v E:=by
 obtain⟨vs,h1,h2,h3⟩:=h
 exact⟨vs,h1,h2.mono hB,fun j h h'=>(h3 j h h').mono hB⟩
theorem EdgesA.form{w:World}{B:Nat}{v:Value}{E:List (List ByteArray)}(h:EdgesA w B v E):∃ao cap,v=.slice ao E.length cap∧∀j (hj:j<E.length),∃b off u,ao=some ⟨b,off,none⟩∧b<B∧w.cell? ⟨b,off+j,none⟩=some u∧TextsA w B u E[j]:=by
 obtain⟨vs,h1,h2,h3⟩:=h
 obtain⟨ao,cap,hv,-,hj⟩:=h2.form
 refine⟨ao,cap,by rw[hv,h1],fun j h=>?_⟩
 obtain⟨b,off,h4,h5,h6⟩:=hj j (by omega)
 exact⟨b,off,_,h4,h5,h6,h3 j h (by omega)⟩
structure OW(e:TypeId)(W:World)(B:Nat)(v:Value)(L:List Value)(W1:World):Prop where
 below:Below B W W1
 own:W1.ownsRow B e 1 v L.length L
theorem OW.start(e:TypeId)(W:World)(B:Nat):OW e W B (.slice none 0 0) [] W:=⟨Below.refl _ _,World.ownsRow_nil _ _ _ _⟩
theorem OW.step{e:TypeId}{W W1 w':World}{B:Nat}{v v':Value}{L:List Value}(h:OW e W B v L W1)(hB:B≤W1.heap.size)(o:Obj)(x:Value)
 (h1:w'.ownsRow B e 1 v' (L.length+1) (L++[x]))(h2:(W1.alloc o).grownBy w' v.ownBlock):OW e W B v' (L++[x]) w':=by
 refine⟨(h.below.alloc hB _).grown h2 (by rw[World.size_alloc];omega) (fun k hk=>(h.own.lt k hk).1),?_⟩
 rw[List.length_append]
 exact h1
theorem OW.row{e:TypeId}{W W1:World}{B:Nat}{v:Value}{L:List Value}(h:OW e W B v L W1):RowA W1 W1.heap.size v L:=own_row h.own
theorem OW.form{e:TypeId}{W W1:World}{B:Nat}{v:Value}{L:List Value}(h:OW e W B v L W1):∃ao cap,v=.slice ao L.length cap:=by
 obtain⟨ao,cap,hv,_⟩:=h.row.form
 exact⟨ao,cap,hv⟩
theorem news_one(w:World)(x:Value)(t:TypeId):∀j u,[x][j]? = some u→(w.alloc (.cells #[x] t)).cell? ((⟨w.heap.size,0,none⟩:Addr).add j)=some u:=by
 intro j u hu
 match j,hu with
 |0,hu=>
  have hadd:(⟨w.heap.size,0,none⟩:Addr).add 0=⟨w.heap.size,0,none⟩:=rfl
  rw[hadd,World.cell?_alloc_new]
  simpa using hu
 |j+1,hu=>simp at hu
theorem infoStrC:(Tryz.prog.info? 9).map (fun i=>(i.zero,i.size,i.bytes))=some (some (.string ByteArray.empty),1,16):=by kernel_rfl
theorem wpList_append_run{P:Program}{w:World}{ops:Array Oper}{rest:List Oper}{o:Oper}{a:Act}{Q:Exit→Act→World→Prop}(hgd:o.guard=none)(s x:Operand)(t tn:TypeId)
 (ho:o.op=.call { callee:=.builtin .append,args:=#[s,x],argTypes:=#[t,tn] })(v v' y:Value)(w':World)(hs:a.eval s=v)(hx:a.eval x=y)(hr:(Builtin.append_ #[t,tn] o.type #[v,y]).run P w=.ok v' w')
 (h:wpList P ops Q rest (a.put o.dst v') w'):wpList P ops Q (o::rest) a w:=by
 refine wpList_plain hgd fun K hK=>?_
 unfold Oper.wp execOp
 simp only[ho,resolve,invoke,builtin,Sem.run_bind,Sem.run_pure,Result.andThen_ok,List.map_toArray,List.map_cons,List.map_nil,hs,hx,hr]
 exact hK _ _ h
theorem run_append_none{P:Program}(w:World)(B:Nat)(t ty e:TypeId)(i:TypeInfo)(size:Nat)(ht:P.underlying t=some (.slice e))(hi:P.info? e=some i)(v:Value)(n:Nat)(xs:List Value)(hown:w.ownsRow B e size v n xs)(c:Nat):
 (Builtin.append_ #[t,t] ty #[v,.slice none 0 c]).run P w=.ok v w:=by
 rcases hown.2 with⟨rfl,rfl⟩|⟨g,cap,cur,rfl,_,hg,hn,_⟩
 ·simp[Builtin.append_,run_underlying ht,sizeOf,typeInfo,hi,Builtin.lenOf,Builtin.firstCells,loadCells,loadCellsFrom]
 ·simp[Builtin.append_,run_underlying ht,sizeOf,typeInfo,hi,Builtin.lenOf,Builtin.firstCells,hn,storeCells]
theorem copyT_any(w:World)(v:Value)(l:List ByteArray)(h:TextsA w w.heap.size v l)(hl:l.length≤1048576):
 Calls Tryz.prog 46 #[v] w fun e w'=>∃u,e=.returned u∧OW 9 w w.heap.size u (textsV l) w':=by
 obtain⟨i0,hi,hz0,hz1,hz2⟩:=info_parts infoStrC
 have hnil:=World.ownsRow_nil w w.heap.size 9 1
 replace hi:=Hd hi
 replace hz0:=Hd hz0
 replace hz1:=Hd hz1
 replace hz2:=Hd hz2
 have hgrow:∀(v':Value) (w':World),w'.ownsRow w.heap.size 9 1 v' (0+(textsV l).length) ([]++textsV l)→w.grownBy w' (Value.ownBlock (.slice none 0 0))→OW 9 w w.heap.size v' (textsV l) w':=by
  intro v' w' h1 h2
  rw[Nat.zero_add,List.nil_append]at h1
  exact⟨⟨h2.os,h2.tape,h2.output,h2.size,fun k hk=>h2.block k hk (by simp[Value.ownBlock])⟩,h1⟩
 replace hgrow:=Hd hgrow
 obtain⟨L,hL⟩:∃L,textsV l=L:=⟨_,rfl⟩
 have hlen:L.length=l.length:=by rw[←hL,textsV_length]
 have hrow:=h.row
 have hone:∀u∈L,u.oneCell'=true:=fun u hu=>by
  rw[←hL]at hu
  obtain⟨s,-,rfl⟩:=List.mem_map.1 hu
  rfl
 rw[hL]at hgrow hrow ⊢
 clear h hL
 rcases hrow with⟨ao,cap,rfl,rfl⟩|⟨b,off,cap,rfl,h0,hc,hb,hj⟩
 ·rcases ao with _|ad
  ·have hrun:=run_append_none (P:=Tryz.prog) w w.heap.size 22 22 9 i0 1 Tryz.underlying22 hi.out (.slice none 0 0) 0 [] hnil cap
   replace hrun:=Hd hrun
   go_enter Tryz.func46,Tryz.ntmps46
   go_wp2_with (at_builtin;refine wpList_append_run rfl _ _ 22 22 rfl _ _ _ _ rfl rfl hrun.out ?_)
   go_ret
   exact⟨_,rfl,OW.start _ _ _⟩
  ·go_enter Tryz.func46,Tryz.ntmps46
   go_wp2_with (at_builtin;refine wpList_append_own _ rfl _ _ 22 rfl w.heap.size 9 i0 (.string ByteArray.empty) 1 16 Tryz.underlying22 hi.out hz0.out hz1.out hz2.out rfl (by decide) _ 0 [] rfl hnil _ 0 _ [] rfl rfl ?c1 ?c2 ?c3 ?c4 ?c5 ?c6)
   case c1=>intro j u h;simp at h
   case c2=>intro u h;cases h
   case c3=>simp only[maxLen];omega
   case c4=>omega
   case c5=>exact Nat.le_refl _
   case c6=>
    intro v' w' h1 h2 _
    have h3:=hgrow.out v' w' h1 h2
    go_wp2
    go_ret
    exact⟨_,rfl,h3⟩
 ·go_enter Tryz.func46,Tryz.ntmps46
  go_wp2_with (at_builtin;refine wpList_append_own _ rfl _ _ 22 rfl w.heap.size 9 i0 (.string ByteArray.empty) 1 16 Tryz.underlying22 hi.out hz0.out hz1.out hz2.out rfl (by decide) _ 0 [] rfl hnil _ L.length _ L rfl ?d0 ?d1 ?d2 ?d3 ?d4 ?d5 ?d6)
  case d0=>simp
  case d1=>exact RowA.news hj
  case d2=>exact hone
  case d3=>simp only[maxLen];omega
  case d4=>omega
  case d5=>exact Nat.le_refl _
  case d6=>
   intro v' w' h1 h2 _
   have h3:=hgrow.out v' w' (by rw[Nat.zero_add,List.nil_append,hlen];exact h1) h2
   go_wp2
   go_ret
   exact⟨_,rfl,h3⟩
end Go.Proofs.YtidplkfhodpdhaaGreatDoor.hyp
set_option linter.unusedSimpArgs false
set_option linter.unusedVariables false
namespace Go.Proofs.YtidplkfhodpdhaaGreatDoor.tab
open Go.RowKit dec val
instance decText:DecidableEq ByteArray:=fun a b=>decidable_of_iff (a.data.toList=b.data.toList) ⟨fun h=>by
 cases a;cases b
 simp only[ByteArray.mk.injEq]
 exact Array.toList_inj.1 h,fun h=>by rw[h]⟩
instance beqText:BEq ByteArray:=⟨fun a b=>decide (a=b)⟩
instance lawText:LawfulBEq ByteArray where
 eq_of_beq h:=of_decide_eq_true h
 rfl:=decide_eq_true rfl
def addN(ns:List ByteArray)(v:ByteArray):List ByteArray:=if v∈ns then ns else ns++[v]
theorem mem_addN{ns:List ByteArray}{v x:ByteArray}:x∈addN ns v↔x∈ns∨x=v:=by
 unfold addN
 by_cases h:v∈ns
 ·rw[if_pos h]
  constructor
  ·exact .inl
  ·rintro(h1|rfl)
   ·exact h1
   ·exact h
 ·rw[if_neg h];simp
theorem addN_nodup{ns:List ByteArray}(h:ns.Nodup)(v:ByteArray):(addN ns v).Nodup:=by
 unfold addN
 by_cases hv:v∈ns
 ·rw[if_pos hv];exact h
 ·rw[if_neg hv]
  rw[List.nodup_append]
  refine⟨h,by simp,fun a ha b hb=>?_⟩
  have:b=v:=by simpa using hb
  rw[this]
  rintro rfl
  exact hv ha
theorem mem_foldN{x:ByteArray}:∀(b a:List ByteArray),x∈b.foldl addN a↔x∈a∨x∈b
 |[],a=>by simp
 | v :: b, a => by
  rw[List.foldl_cons,mem_foldN b (addN a v),mem_addN,List.mem_cons]
  constructor
  ·rintro((h|h)|h)
   ·exact .inl h
   ·exact .inr (.inl h)
   ·exact .inr (.inr h)
  ·rintro(h|h|h)
   ·exact .inl (.inl h)
   ·exact .inl (.inr h)
   ·exact .inr h
theorem foldN_nodup:∀(b a:List ByteArray),a.Nodup→(b.foldl addN a).Nodup
 |[],a,h=>h
 |v::b,a,h=>foldN_nodup b (addN a v) (addN_nodup h v)
theorem foldN_prefix:∀(b a:List ByteArray),∃m,b.foldl addN a=a++m
 |[],a=>⟨[],by simp⟩
 |v::b,a=>by
  obtain⟨m,h⟩:=foldN_prefix b (addN a v)
  rw[List.foldl_cons,h]
  unfold addN
  by_cases hv:v∈a
  ·rw[if_pos hv];exact⟨m,rfl⟩
  ·rw[if_neg hv];exact⟨v::m,by simp⟩
theorem foldN_len:∀(b a:List ByteArray),(b.foldl addN a).length≤a.length+b.length
 |[],a=>by simp
 |v::b,a=>by
  have:=foldN_len b (addN a v)
  have h2:(addN a v).length≤a.length+1:=by unfold addN;split<;>simp
  rw[List.foldl_cons,List.length_cons]
  omega
def nullV:V:=.mk 0 false 0 ⟨#[]⟩ ⟨#[]⟩ []
def isN(v:V):Bool:=decide (kindV v=0)
theorem emp_nil{s:ByteArray}(h:emp s=true):s=⟨#[]⟩:=by
 have h0:s.size=0:=of_decide_eq_true h
 cases s with
 |mk d=>
  have:d=#[]:=Array.eq_empty_of_size_eq_zero h0
  rw[this]
theorem may_null{v:V}(hm:mayV v=true)(h:isN v=true):v=nullV:=by
 cases v with
 |mk k b n t x l=>
  have hk:k=0:=of_decide_eq_true h
  subst hk
  have h1:chkW (fun l=>l.all (chkV 59)) (.mk 0 b n t x l)=true:=hm
  unfold chkW at h1
  simp only[if_true,Bool.and_eq_true,decide_eq_true_eq,Bool.not_eq_true']at h1
  obtain⟨⟨⟨⟨h2,h3⟩,h4⟩,h5⟩,h6⟩:=h1
  rw[h2,h3,emp_nil h4,emp_nil h5,List.eq_nil_of_length_eq_zero h6]
  rfl
theorem null_isN:isN nullV=true:=rfl
structure Tab where
 vars:List ByteArray
 rows:List (List V)
def namesB(l:List ByteArray):Bool:=decide (l.length≤64)&&l.all val.nameB&&decide l.Nodup
def rowB(n:Nat)(r:List V):Bool:=decide (r.length=n)&&r.all mayV
def mayT(t:Tab):Bool:=namesB t.vars&&t.rows.all (rowB t.vars.length)
def cellF(ns:List ByteArray)(r:List V)(x:ByteArray):V:=r.getD (ns.idxOf x) nullV
def orN(a b:V):V:=if isN a=true then b else a
def okC(a b:V):Bool:=isN a||(isN b||sameP a b)
def compat(A B:List ByteArray)(r s:List V):Bool:=B.all fun x=>!decide (x∈A)||okC (cellF A r x) (cellF B s x)
def shared(A B:List ByteArray)(r s:List V):Bool:=B.any fun x=>decide (x∈A)&&(!isN (cellF A r x)&&!isN (cellF B s x))
def joinR(A B:List ByteArray)(r s:List V):List V:=(B.foldl addN A).map fun x=>orN (cellF A r x) (cellF B s x)
def joinRows(a b:Tab):List (List V):=a.rows.flatMap fun r=>b.rows.filterMap fun s=>if compat a.vars b.vars r s=true then some (joinR a.vars b.vars r s) else none
def joinT(a b:Tab):Tab:=if(b.vars.foldl addN a.vars).length≤64 then⟨b.vars.foldl addN a.vars,joinRows a b⟩ else⟨[],[]⟩
def projT(a:Tab)(vs:List ByteArray):Tab:=⟨vs,a.rows.map fun r=>vs.map (cellF a.vars r)⟩
def unionT(a b:Tab):Tab:=
 if(b.vars.foldl addN a.vars).length≤64 then⟨b.vars.foldl addN a.vars,(a.rows.map fun r=>(b.vars.foldl addN a.vars).map (cellF a.vars r))++b.rows.map fun s=>(b.vars.foldl addN a.vars).map (cellF b.vars s)⟩ else⟨[],[]⟩
def minusT(a b:Tab):Tab:=⟨a.vars,a.rows.filter fun r=>!b.rows.any fun s=>compat a.vars b.vars r s&&shared a.vars b.vars r s⟩
def cntK(k:List UInt8)(l:List (List UInt8)):Nat:=l.countP fun x=>decide (x=k)
theorem cell_in{ns:List ByteArray}{r:List V}(hl:r.length=ns.length){x:ByteArray}(h:x∈ns):cellF ns r x∈r:=by
 unfold cellF
 have h1:ns.idxOf x<r.length:=by rw[hl];exact List.idxOf_lt_length_of_mem h
 rw[List.getD_eq_getElem?_getD,List.getElem?_eq_getElem h1]
 exact List.getElem_mem h1
theorem cell_out{ns:List ByteArray}{r:List V}(hl:r.length=ns.length){x:ByteArray}(h:x∉ns):cellF ns r x=nullV:=by
 unfold cellF
 rw[List.getD_eq_getElem?_getD,List.getElem?_eq_none (by rw[hl,List.idxOf_eq_length h];exact Nat.le_refl _)]
 rfl
theorem cell_may{ns:List ByteArray}{r:List V}(hr:rowB ns.length r=true)(x:ByteArray):mayV (cellF ns r x)=true:=by
 unfold rowB at hr
 rw[Bool.and_eq_true,decide_eq_true_eq,List.all_eq_true]at hr
 by_cases h:x∈ns
 ·exact hr.2 _ (cell_in hr.1 h)
 ·rw[cell_out hr.1 h];decide
theorem cells_row{ns:List ByteArray}{r:List V}(hn:ns.Nodup)(hl:r.length=ns.length):ns.map (cellF ns r)=r:=by
 apply List.ext_getElem
 ·simp[hl]
 ·intro j h1 h2
  rw[List.getElem_map]
  unfold cellF
  have hj:j<ns.length:=by simpa using h1
  have e:ns.idxOf ns[j]=j:=List.Nodup.idxOf_getElem hn j hj
  rw[e,List.getD_eq_getElem?_getD,List.getElem?_eq_getElem h2]
  rfl
theorem compat_iff(A B:List ByteArray)(r s:List V):compat A B r s=true↔∀x,x∈A→x∈B→okC (cellF A r x) (cellF B s x)=true:=by
 unfold compat
 rw[List.all_eq_true]
 constructor
 ·intro h x ha hb
  have:=h x hb
  rw[Bool.or_eq_true,Bool.not_eq_true',decide_eq_false_iff_not]at this
  rcases this with h1|h1
  ·exact absurd ha h1
  ·exact h1
 ·intro h x hb
  by_cases ha:x∈A
  ·rw[h x ha hb,Bool.or_true]
  ·rw[decide_eq_false ha];rfl
theorem orN_may{a b:V}(ha:mayV a=true)(hb:mayV b=true):mayV (orN a b)=true:=by
 unfold orN
 split
 ·exact hb
 ·exact ha
theorem joinR_may{A B:List ByteArray}{r s:List V}(hr:rowB A.length r=true)(hs:rowB B.length s=true):rowB (B.foldl addN A).length (joinR A B r s)=true:=by
 unfold rowB joinR
 rw[Bool.and_eq_true,decide_eq_true_eq,List.all_eq_true]
 refine⟨by simp,fun v hv=>?_⟩
 obtain⟨x,-,rfl⟩:=List.mem_map.1 hv
 exact orN_may (cell_may hr x) (cell_may hs x)
theorem may_rows{t:Tab}(h:mayT t=true):namesB t.vars=true∧∀r∈t.rows,rowB t.vars.length r=true:=by
 unfold mayT at h
 rw[Bool.and_eq_true,List.all_eq_true]at h
 exact h
theorem names_parts{l:List ByteArray}(h:namesB l=true):l.length≤64∧(∀x∈l,val.nameB x=true)∧l.Nodup:=by
 unfold namesB at h
 rw[Bool.and_eq_true,Bool.and_eq_true,decide_eq_true_eq,decide_eq_true_eq,List.all_eq_true]at h
 exact⟨h.1.1,h.1.2,h.2⟩
theorem names_fold{A B:List ByteArray}(ha:namesB A=true)(hb:namesB B=true)(hl:(B.foldl addN A).length≤64):namesB (B.foldl addN A)=true:=by
 obtain⟨-,a2,a3⟩:=names_parts ha
 obtain⟨-,b2,b3⟩:=names_parts hb
 unfold namesB
 rw[Bool.and_eq_true,Bool.and_eq_true,decide_eq_true_eq,decide_eq_true_eq,List.all_eq_true]
 refine⟨⟨hl,fun x hx=>?_⟩,foldN_nodup _ _ a3⟩
 rcases(mem_foldN B A).1 hx with h|h
 ·exact a2 x h
 ·exact b2 x h
theorem joinT_may{a b:Tab}(ha:mayT a=true)(hb:mayT b=true):mayT (joinT a b)=true:=by
 obtain⟨a1,a2⟩:=may_rows ha
 obtain⟨b1,b2⟩:=may_rows hb
 unfold joinT
 by_cases hl:(b.vars.foldl addN a.vars).length≤64
 ·rw[if_pos hl]
  unfold mayT
  rw[Bool.and_eq_true,List.all_eq_true]
  refine⟨names_fold a1 b1 hl,fun x hx=>?_⟩
  obtain⟨r,hr,h2⟩:=List.mem_flatMap.1 hx
  obtain⟨s,hs,h3⟩:=List.mem_filterMap.1 h2
  by_cases hc:compat a.vars b.vars r s=true
  ·rw[if_pos hc]at h3
   cases h3
   exact joinR_may (a2 r hr) (b2 s hs)
  ·rw[if_neg hc]at h3;cases h3
 ·rw[if_neg hl];decide
theorem projT_may{a:Tab}{vs:List ByteArray}(ha:mayT a=true)(hv:namesB vs=true):mayT (projT a vs)=true:=by
 obtain⟨a1,a2⟩:=may_rows ha
 unfold projT mayT
 rw[Bool.and_eq_true,List.all_eq_true]
 refine⟨hv,fun x hx=>?_⟩
 obtain⟨r,hr,rfl⟩:=List.mem_map.1 hx
 unfold rowB
 rw[Bool.and_eq_true,decide_eq_true_eq,List.all_eq_true]
 refine⟨by simp,fun v hv=>?_⟩
 obtain⟨y,-,rfl⟩:=List.mem_map.1 hv
 exact cell_may (a2 r hr) y
theorem row_len{n:Nat}{r:List V}(h:rowB n r=true):r.length=n:=by unfold rowB at h;rw[Bool.and_eq_true,decide_eq_true_eq]at h;exact h.1
theorem half_may{b:Tab}(hb:mayT b=true){l:List (List V)}(hl:∀r∈l,r∈b.rows):mayT ⟨b.vars,l⟩=true:=by
 obtain⟨h1,h2⟩:=may_rows hb
 unfold mayT
 rw[Bool.and_eq_true,List.all_eq_true]
 exact⟨h1,fun r hr=>h2 r (hl r hr)⟩
theorem minus_may{a:Tab}(b:Tab)(ha:mayT a=true):mayT (minusT a b)=true:=half_may ha fun r hr=>(List.mem_filter.1 hr).1
theorem unionT_may{a b:Tab}(ha:mayT a=true)(hb:mayT b=true):mayT (unionT a b)=true:=by
 obtain⟨a1,a2⟩:=may_rows ha
 obtain⟨b1,b2⟩:=may_rows hb
 unfold unionT
 by_cases hl:(b.vars.foldl addN a.vars).length≤64
 ·rw[if_pos hl]
  unfold mayT
  rw[Bool.and_eq_true,List.all_eq_true]
  refine⟨names_fold a1 b1 hl,fun x hx=>?_⟩
  have hrow:∀(ns:List ByteArray) (r:List V),rowB ns.length r=true→rowB (b.vars.foldl addN a.vars).length ((b.vars.foldl addN a.vars).map (cellF ns r))=true:=fun ns r h=>by
   unfold rowB
   rw[Bool.and_eq_true,decide_eq_true_eq,List.all_eq_true]
   refine⟨by simp,fun v hv=>?_⟩
   obtain⟨y,-,rfl⟩:=List.mem_map.1 hv
   exact cell_may h y
  rcases List.mem_append.1 hx with h|h
  ·obtain⟨r,hr,rfl⟩:=List.mem_map.1 h
   exact hrow _ _ (a2 r hr)
  ·obtain⟨s,hs,rfl⟩:=List.mem_map.1 h
   exact hrow _ _ (b2 s hs)
 ·rw[if_neg hl];decide
def distF:List (List UInt8)→List (List V)→List (List V)
 |_,[]=>[]
 |seen,r::l=>if encL r∈seen then distF seen l else r::distF (encL r::seen) l
def distT(a:Tab):Tab:=⟨a.vars,distF [] a.rows⟩
theorem distF_mem:∀(l:List (List V)) (seen:List (List UInt8)),∀r∈distF seen l,r∈l
 |[],_,r,h=>by simp[distF]at h
 | a :: l, seen, r, h => by
  rw[distF]at h
  split at h
  ·exact List.mem_cons_of_mem _ (distF_mem l _ r h)
  ·rcases List.mem_cons.1 h with rfl|h
   ·simp
   ·exact List.mem_cons_of_mem _ (distF_mem l _ r h)
theorem dist_may{a:Tab}(ha:mayT a=true):mayT (distT a)=true:=half_may ha fun r hr=>distF_mem _ _ r hr
def pairJ(A B:List ByteArray)(r s:List V):Option (List V):=if compat A B r s=true then some (joinR A B r s) else none
def rowsIJ(a b:Tab)(i j:Nat):List (List V):=
 ((a.rows.take i).flatMap fun r=>b.rows.filterMap (pairJ a.vars b.vars r))++(b.rows.take j).filterMap (pairJ a.vars b.vars (a.rows.getD i []))
theorem rowsIJ_zero(a b:Tab):rowsIJ a b 0 0=[]:=by simp[rowsIJ]
theorem rowsIJ_end(a b:Tab):rowsIJ a b a.rows.length 0=joinRows a b:=by
 unfold rowsIJ joinRows
 rw[List.take_length,List.take_zero,List.filterMap_nil,List.append_nil]
 rfl
theorem rowsIJ_next(a b:Tab){i:Nat}(h:i<a.rows.length):rowsIJ a b (i+1) 0=rowsIJ a b i b.rows.length:=by
 unfold rowsIJ
 rw[List.take_succ_eq_append_getElem h,List.flatMap_append,List.take_zero,List.filterMap_nil,List.append_nil,List.take_length]
 simp[h]
theorem rowsIJ_yes(a b:Tab){i j:Nat}(h:i<a.rows.length)(hj:j<b.rows.length)(hc:compat a.vars b.vars a.rows[i] b.rows[j]=true):rowsIJ a b i (j+1)=rowsIJ a b i j++[joinR a.vars b.vars a.rows[i] b.rows[j]]:=by
 unfold rowsIJ
 rw[List.take_succ_eq_append_getElem hj,List.filterMap_append,←List.append_assoc]
 congr 1
 simp[h,pairJ,hc]
theorem rowsIJ_no(a b:Tab){i j:Nat}(h:i<a.rows.length)(hj:j<b.rows.length)(hc:compat a.vars b.vars a.rows[i] b.rows[j]=false):rowsIJ a b i (j+1)=rowsIJ a b i j:=by
 unfold rowsIJ
 rw[List.take_succ_eq_append_getElem hj,List.filterMap_append,←List.append_assoc]
 simp[h,pairJ,hc]
theorem rowsIJ_len(a b:Tab):∀(i j:Nat),i<a.rows.length→j≤b.rows.length→(rowsIJ a b i j).length≤i * b.rows.length+j
 |0,j,h,hj=>by
  unfold rowsIJ
  simp only[List.take_zero,List.flatMap_nil,List.nil_append]
  refine Nat.le_trans (List.length_filterMap_le _ _) ?_
  rw[List.length_take]
  omega
 | i + 1, j, h, hj => by
  have ih:=rowsIJ_len a b i b.rows.length (by omega) (Nat.le_refl _)
  rw[←rowsIJ_next a b (by omega)]at ih
  have e:(rowsIJ a b (i+1) j).length≤(rowsIJ a b (i+1) 0).length+j:=by
   unfold rowsIJ
   rw[List.length_append,List.take_zero,List.filterMap_nil,List.append_nil]
   have:=List.length_filterMap_le (pairJ a.vars b.vars (a.rows.getD (i+1) [])) (b.rows.take j)
   rw[List.length_take]at this
   omega
  rw[Nat.add_mul,Nat.one_mul]
  omega
theorem cell_at{ns:List ByteArray}{r:List V}(hl:r.length=ns.length){x:ByteArray}(h:x∈ns):∃h2:ns.idxOf x<r.length,r[ns.idxOf x]=cellF ns r x:=by
 have h2:ns.idxOf x<r.length:=by rw[hl];exact List.idxOf_lt_length_of_mem h
 refine⟨h2,?_⟩
 unfold cellF
 rw[List.getD_eq_getElem?_getD,List.getElem?_eq_getElem h2]
 rfl
end Go.Proofs.YtidplkfhodpdhaaGreatDoor.tab
