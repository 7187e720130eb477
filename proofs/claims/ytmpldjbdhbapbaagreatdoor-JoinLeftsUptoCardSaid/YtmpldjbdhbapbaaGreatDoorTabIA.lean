/- Texts TabIdx, TabMem, one behind the other. -/
import Derived.Test.YtmpldjbdhbapbaaGreatDoorHMem
import Derived.Test.YtmpldjbdhbapbaaGreatDoorTabPA
import Derived.Test.YtmpldjbdhbapbaaGreatDoorVMadeA
set_option linter.unusedSimpArgs false
set_option linter.unusedVariables false
set_option maxRecDepth 100000
set_option maxHeartbeats 2000000
namespace Go.Proofs.YtmpldjbdhbapbaaGreatDoor.tab
open Go.ChangeShapes Go.WideShapes Go.ChangeAt Go.RowKit kit hyp
theorem text_eq(a b:ByteArray):(a.toList==b.toList)=decide (a=b):=by
 apply Bool.eq_iff_iff.2
 rw[decide_eq_true_eq,beq_iff_eq,Go.ByteArray.toList_eq,Go.ByteArray.toList_eq]
 constructor
 ·intro h
  cases a;cases b
  congr
  exact Array.toList_inj.1 h
 ·intro h;rw[h]
def idxI(ns:List ByteArray)(s:ByteArray):Int:=if s∈ns then((ns.idxOf s:Nat):Int) else -1
theorem index_any(w:World)(ao:Option Addr)(cap:Nat)(ns:List ByteArray)(s:ByteArray)(hn:ns.length≤1048576)
 (hc:∀j (hj:j<ns.length),∃b off,ao=some ⟨b,off,none⟩∧b<w.heap.size∧w.cell? ⟨b,off+j,none⟩=some (.string ns[j])):
 Calls Tryz.prog 37 #[.slice ao ns.length cap,.string s] w fun e w'=>e=.returned (.int .i64 (idxI ns s))∧w'=w:=by
 replace hc:=Hd hc
 go_enter Tryz.func37,Tryz.ntmps37
 go_wp2
 go_loop [8] (fun i=>∃k:Nat,k≤ns.length∧i=.int .i64 (k:Int)∧Hid (∀j (hj:j<ns.length),j<k→ns[j]≠s)) (fun i=>ns.length-(intOf i).toNat)
 case atStart=>exact⟨0,by omega,rfl,Hd (fun j _ h=>by omega)⟩
 case round =>
  obtain⟨k,hk,rfl,hno⟩:=hrel
  by_cases hlt:k<ns.length
  ·have hki:(k:Int)<(ns.length:Int):=by omega
   obtain⟨b,off,rfl,-,hck⟩:=hc.out k hlt
   have hxe:=text_eq s ns[k]
   by_cases he:s=ns[k]
   ·have hr:idxI ns s=(k:Int):=by
     unfold idxI
     rw[if_pos (by rw[he];exact List.getElem_mem hlt)]
     have h1:ns.idxOf s=k:=by
      have hmem:s∈ns:=by rw[he];exact List.getElem_mem hlt
      have h2:=List.idxOf_lt_length_of_mem hmem
      have h3:=List.getElem_idxOf h2
      have h4:¬ns.idxOf s<k:=fun h=>hno.out _ h2 h h3
      have h5:ns.idxOf s≤k:=by
       apply Classical.byContradiction
       intro h6
       have h7:k<ns.findIdx (·==s):=by show k<ns.idxOf s;omega
       have h8:=List.not_of_lt_findIdx h7
       simp[←he]at h8
      omega
     rw[h1]
    rw[decide_eq_true he]at hxe
    replace hr:=Hd hr
    replace he:=Hd he
    generalize ns[k]=x at *
    go_wp2
    go_ret
    exact⟨ret_int hr.out.symm,rfl⟩
   ·rw[decide_eq_false he]at hxe
    have hno2:Hid (∀j (hj:j<ns.length),j<k+1→ns[j]≠s):=Hd fun j hj h=>by
     by_cases hjk:j=k
     ·subst hjk;exact fun e=>he e.symm
     ·exact hno.out j hj (by omega)
    have hk1:=Hd (show k+1≤ns.length from hlt)
    clear he hno
    generalize ns[k]=x at *
    go_wp2
    go_round
    case rel=>exact⟨k+1,hk1.out,by go_num,hno2⟩
    case measure=>have:=hk1.out;simp[intOf];omega
  ·have hki:¬(k:Int)<(ns.length:Int):=by omega
   obtain rfl:k=ns.length:=by omega
   have hr:idxI ns s=-1:=by
    unfold idxI
    rw[if_neg]
    intro hmem
    obtain⟨j,hj,he⟩:=List.getElem_of_mem hmem
    exact hno.out j hj hj he
   replace hr:=Hd hr
   go_wp2
   go_ret
   exact⟨ret_int hr.out.symm,rfl⟩
theorem rindex_any(w:World)(ao:Option Addr)(cap:Nat)(ns:List ByteArray)(s:ByteArray)(hn:ns.length≤1048576)
 (hc:∀j (hj:j<ns.length),∃b off,ao=some ⟨b,off,none⟩∧b<w.heap.size∧w.cell? ⟨b,off+j,none⟩=some (.string ns[j])):
 Calls Tryz.prog 42 #[.slice ao ns.length cap,.string s] w fun e w'=>e=.returned (.int .i64 (idxI ns s))∧w'=w:=by
 replace hc:=Hd hc
 go_enter Tryz.func42,Tryz.ntmps42
 go_wp2
 go_loop [5] (fun i=>∃k:Nat,k≤ns.length∧i=.int .i64 (k:Int)∧Hid (∀j (hj:j<ns.length),j<k→ns[j]≠s)) (fun i=>ns.length-(intOf i).toNat)
 case atStart=>exact⟨0,by omega,rfl,Hd (fun j _ h=>by omega)⟩
 case round =>
  obtain⟨k,hk,rfl,hno⟩:=hrel
  by_cases hlt:k<ns.length
  ·have hki:(k:Int)<(ns.length:Int):=by omega
   obtain⟨b,off,rfl,-,hck⟩:=hc.out k hlt
   have hxe:=text_eq ns[k] s
   by_cases he:s=ns[k]
   ·have hr:idxI ns s=(k:Int):=by
     unfold idxI
     rw[if_pos (by rw[he];exact List.getElem_mem hlt)]
     have h1:ns.idxOf s=k:=by
      have hmem:s∈ns:=by rw[he];exact List.getElem_mem hlt
      have h2:=List.idxOf_lt_length_of_mem hmem
      have h3:=List.getElem_idxOf h2
      have h4:¬ns.idxOf s<k:=fun h=>hno.out _ h2 h h3
      have h5:ns.idxOf s≤k:=by
       apply Classical.byContradiction
       intro h6
       have h7:k<ns.findIdx (·==s):=by show k<ns.idxOf s;omega
       have h8:=List.not_of_lt_findIdx h7
       simp[←he]at h8
      omega
     rw[h1]
    rw[decide_eq_true he.symm]at hxe
    replace hr:=Hd hr
    replace he:=Hd he
    generalize ns[k]=x at *
    go_wp2
    go_ret
    exact⟨ret_int hr.out.symm,rfl⟩
   ·rw[decide_eq_false (fun e=>he e.symm)]at hxe
    have hno2:Hid (∀j (hj:j<ns.length),j<k+1→ns[j]≠s):=Hd fun j hj h=>by
     by_cases hjk:j=k
     ·subst hjk;exact fun e=>he e.symm
     ·exact hno.out j hj (by omega)
    have hk1:=Hd (show k+1≤ns.length from hlt)
    clear he hno
    generalize ns[k]=x at *
    go_wp2
    go_round
    case rel=>exact⟨k+1,hk1.out,by go_num,hno2⟩
    case measure=>have:=hk1.out;simp[intOf];omega
  ·have hki:¬(k:Int)<(ns.length:Int):=by omega
   obtain rfl:k=ns.length:=by omega
   have hr:idxI ns s=-1:=by
    unfold idxI
    rw[if_neg]
    intro hmem
    obtain⟨j,hj,he⟩:=List.getElem_of_mem hmem
    exact hno.out j hj hj he
   replace hr:=Hd hr
   go_wp2
   go_ret
   exact⟨ret_int hr.out.symm,rfl⟩
theorem idxI_neg(ns:List ByteArray)(s:ByteArray):decide (idxI ns s<0)=!decide (s∈ns):=by
 unfold idxI
 by_cases h:s∈ns
 ·rw[if_pos h,decide_eq_true h,decide_eq_false (by omega)];rfl
 ·rw[if_neg h,decide_eq_false h];rfl
open dec val
open hyp (RowA TextsA CellsStay stay_of_below textsV own_row)
theorem infoRow:(Tryz.prog.info? 32).map (fun i=>(i.zero,i.size,i.bytes))=some (some (.slice none 0 0),1,24):=by kernel_rfl
def RowsA(w:World)(N:Nat)(v:Value)(rs:List (List V)):Prop:=∃vs:List Value,vs.length=rs.length∧RowA w w.heap.size v vs∧∀j (h:j<vs.length) (h':j<rs.length),LA w N vs[j] rs[j]
theorem RowsA.stay{w w':World}{N:Nat}{v:Value}{rs:List (List V)}(h:RowsA w N v rs)(hb:Below w.heap.size w w'):RowsA w' N v rs:=by
 obtain⟨vs,h1,h2,h3⟩:=h
 exact⟨vs,h1,(h2.stay (stay_of_below hb)).mono hb.size,fun j hj hj'=>(h3 j hj hj').stay hb⟩
theorem RowsA.form{w:World}{N:Nat}{v:Value}{rs:List (List V)}(h:RowsA w N v rs):∃ao cap,v=.slice ao rs.length cap∧rs.length≤cap∧∀j (hj:j<rs.length),∃b off a c,ao=some ⟨b,off,none⟩∧b<w.heap.size∧w.cell? ⟨b,off+j,none⟩=some (.slice a rs[j].length c)∧LA w N (.slice a rs[j].length c) rs[j]:=by
 obtain⟨vs,h1,h2,h3⟩:=h
 rcases h2 with⟨ao,cap,rfl,rfl⟩|⟨b,off,cap,rfl,h0,hc,hb,hj⟩
 ·have:rs=[]:=List.eq_nil_of_length_eq_zero (by simpa using h1.symm)
  subst this
  exact⟨ao,cap,rfl,Nat.zero_le _,fun j hj=>by simp at hj⟩
 ·refine⟨some ⟨b,off,none⟩,cap,by rw[h1],by omega,fun j hjl=>?_⟩
  have h4:=h3 j (by omega) hjl
  obtain⟨a,c,h5⟩:=h4.form6
  refine⟨b,off,a,c,rfl,hb,?_,by rw[←h5];exact h4⟩
  rw[hj j (by omega),h5]
structure TabA(w:World)(N:Nat)(v:Value)(t:Tab):Prop where
 ex:∃vv rv,v=.agg #[vv,rv]∧TextsA w w.heap.size vv t.vars∧RowsA w N rv t.rows
theorem TextsA.below{w w':World}{v:Value}{l:List ByteArray}(h:TextsA w w.heap.size v l)(hb:Below w.heap.size w w'):TextsA w' w'.heap.size v l:=(h.stay (stay_of_below hb)).mono hb.size
theorem TabA.stay{w w':World}{N:Nat}{v:Value}{t:Tab}(h:TabA w N v t)(hb:Below w.heap.size w w'):TabA w' N v t:=by
 obtain⟨vv,rv,h1,h2,h3⟩:=h.ex
 exact⟨vv,rv,h1,TextsA.below h2 hb,h3.stay hb⟩
def MR(w:World)(N:Nat)(S:Nat→Prop)(v:Value)(rs:List (List V)):Prop:=
 ∃(vs:List Value) (P:Nat→Nat→Prop),vs.length=rs.length∧w.ownsRow 0 32 1 v vs.length vs∧(∀g,v.ownBlock=some g→S g)∧(∀g,v.ownBlock=some g→∀j,¬P j g)∧(∀j b,P j b→S b)∧(∀i j b,P i b→P j b→i=j) ∧
  ∀j (hj:j<vs.length) (hj':j<rs.length),LF w N (P j) vs[j] rs[j]
theorem MR.nil(w:World)(N:Nat)(S:Nat→Prop):MR w N S (.slice none 0 0) []:=by
 refine⟨[],fun _ _=>False,rfl,World.ownsRow_nil _ _ _ _,?_,?_,?_,?_,?_⟩
 ·intro g h;cases h
 ·intro g h;cases h
 ·intro j b h;exact h.elim
 ·intro i j b h;exact h.elim
 ·intro j hj;simp at hj
theorem MR.stay{w w':World}{N:Nat}{S:Nat→Prop}{v:Value}{rs:List (List V)}(h:MR w N S v rs)(hb:∀b,S b→b<w.heap.size→w'.heap[b]? = w.heap[b]?):MR w' N S v rs:=by
 obtain⟨vs,P,h1,h2,h3,h4,h5,h6,h7⟩:=h
 exact⟨vs,P,h1,own_stay h2 fun g hg=>hb g (h3 g hg) (h2.lt g hg).2,h3,h4,h5,h6,fun j hj hj'=>(h7 j hj hj').stay fun b hP hlt=>hb b (h5 j b hP) hlt⟩
theorem MR.mono{w:World}{N:Nat}{S S':Nat→Prop}{v:Value}{rs:List (List V)}(h:MR w N S v rs)(hs:∀b,S b→S' b):MR w N S' v rs:=by
 obtain⟨vs,P,h1,h2,h3,h4,h5,h6,h7⟩:=h
 exact⟨vs,P,h1,h2,fun g hg=>hs g (h3 g hg),h4,fun j b hP=>hs b (h5 j b hP),h6,h7⟩
theorem MR.form{w:World}{N:Nat}{S:Nat→Prop}{v:Value}{rs:List (List V)}(h:MR w N S v rs):∃ao cap,v=.slice ao rs.length cap:=by
 obtain⟨vs,P,h1,h2,-⟩:=h
 rcases h2.2 with⟨rfl,hn⟩|⟨g,cap,cur,rfl,_⟩
 ·exact⟨none,0,by rw[←h1,hn]⟩
 ·exact⟨_,cap,by rw[h1]⟩
theorem MR.read{w:World}{N:Nat}{S:Nat→Prop}{v:Value}{rs:List (List V)}(h:MR w N S v rs):RowsA w N v rs:=by
 obtain⟨vs,P,h1,h2,h3,h4,h5,h6,h7⟩:=h
 exact⟨vs,h1,own_row h2,fun j hj hj'=>(h7 j hj hj').toLA⟩
theorem MR.pushed{w w':World}{N:Nat}{S T:Nat→Prop}{v v' x:Value}{rs:List (List V)}{r:List V}{vs:List Value}(h:MR w N S v rs)(hvs:w.ownsRow 0 32 1 v rs.length vs)(hSlt:∀b,S b→b<w.heap.size)
 (hx:LF w N T x r)(hTlt:∀b,T b→b<w.heap.size∧¬S b)(own:w'.ownsRow 0 32 1 v' (rs.length+1) (vs++[x]))(hg:w.grownBy w' v.ownBlock)(hv:v'.ownBlock=v.ownBlock∨∀g,v'.ownBlock=some g→w.heap.size≤g):
 MR w' N (fun b=>S b∨T b∨(w.heap.size≤b∧b<w'.heap.size)) v' (rs++[r]):=by
 obtain⟨vs2,P,h1,h2,h3,h4,h5,h6,h7⟩:=h
 have hvv:vs2=vs:=by
  rw[h1]at h2
  have a1:=h2.1
  have a2:=hvs.1
  rcases h2.2 with⟨e,hn⟩|⟨g,cap,cur,e,-,b1,-,-,-,b2⟩
  ·have b1:vs2=[]:=List.eq_nil_of_length_eq_zero (by omega)
   have b2:vs=[]:=List.eq_nil_of_length_eq_zero (by omega)
   rw[b1,b2]
  ·rcases hvs.2 with⟨e2,hn⟩|⟨g2,cap2,cur2,e2,-,c1,-,-,-,c2⟩
   ·have b1:vs2=[]:=List.eq_nil_of_length_eq_zero (by omega)
    have b2:vs=[]:=List.eq_nil_of_length_eq_zero (by omega)
    rw[b1,b2]
   ·rw[e]at e2
    injection e2 with e3 e4 e5
    injection e3 with e3
    injection e3 with e3
    subst e3
    rw[b1]at c1
    cases c1
    rw[←b2,←c2]
 subst hvv
 have hlt:=own.lt
 refine⟨vs2++[x],fun j b=>if j<vs2.length then P j b else(j=vs2.length∧T b),by rw[List.length_append,List.length_append,h1];rfl,by rw[List.length_append,h1];exact own,?_,?_,?_,?_,?_⟩
 ·intro g hg'
  rcases hv with e|e
  ·exact .inl (h3 g (by rw[←e];exact hg'))
  ·exact .inr (.inr ⟨e g hg',(hlt g hg').2⟩)
 ·intro g hg' j hP
  rcases hv with e|e
  ·have e2:v.ownBlock=some g:=by rw[←e];exact hg'
   split at hP
   ·exact h4 g e2 j hP
   ·exact(hTlt g hP.2).2 (h3 g e2)
  ·have:=e g hg'
   split at hP
   ·have:=hSlt g (h5 j g hP);omega
   ·have:=(hTlt g hP.2).1;omega
 ·intro j b hP
  split at hP
  ·exact .inl (h5 j b hP)
  ·exact .inr (.inl hP.2)
 ·intro i j b g1 g2
  split at g1<;>split at g2
  ·exact h6 i j b g1 g2
  ·exact((hTlt b g2.2).2 (h5 i b g1)).elim
  ·exact((hTlt b g1.2).2 (h5 j b g2)).elim
  ·rw[g1.1,g2.1]
 ·intro j hj hj'
  by_cases hlt':j<vs2.length
  ·simp only[if_pos hlt',List.getElem_append_left hlt',List.getElem_append_left (show j<rs.length by omega)]
   exact(h7 j hlt' (by omega)).stay fun b hb hb2=>hg.block b hb2 (fun e=>h4 b e.symm j hb)
  ·have hje:j=vs2.length:=by rw[List.length_append]at hj;simp at hj;omega
   have e1:(vs2++[x])[j]'hj=x:=by simp[hje]
   have e2:(rs++[r])[j]'hj'=r:=by simp[hje,h1]
   rw[e1,e2]
   refine(hx.mono (S':=fun b=>if j<vs2.length then P j b else(j=vs2.length∧T b)) fun b hb=>by rw[if_neg hlt'];exact⟨hje,hb⟩).stay fun b hb hb2=>?_
   rw[if_neg hlt']at hb
   exact hg.block b hb2 (fun e=>(hTlt b hb.2).2 (h3 b e.symm))
theorem wp_pushR{w:World}{o:Oper}{a:Act}{K:Act→World→Prop}{Q:Exit→Act→World→Prop}(s x:Operand)
 (ho:o.op=.call { callee:=.builtin .append,args:=#[s,x],argTypes:=#[23,23] })
 (N:Nat)(S T:Nat→Prop)(v:Value)(rs:List (List V))(hs:a.eval s=v)(hM:MR w N S v rs)(hSlt:∀b,S b→b<w.heap.size)
 (g:Nat)(r:List V)(t:Value)(hx:a.eval x=.slice (some ⟨g,0,none⟩) 1 1)(hg:w.cell? ⟨g,0,none⟩=some t)
 (hT:LF w N T t r)(hTlt:∀b,T b→b<w.heap.size∧¬S b)(hlen:rs.length+1≤1048576)
 (hK:∀v' w',MR w' N (fun b=>S b∨T b∨(w.heap.size≤b∧b<w'.heap.size)) v' (rs++[r])→w.grownBy w' v.ownBlock→(∀g,v.ownBlock=some g→S g)→K (a.put o.dst v') w'):
 o.wp Tryz.prog a w K Q:=by
 obtain⟨i0,hi,hz1,hz2,hz3⟩:=info_parts infoRow
 obtain⟨vs,P,h1,own,h3,h4,h5,h6,h7⟩:=id hM
 rw[h1]at own
 have hnews:∀j u,[t][j]? = some u→w.cell? ((⟨g,0,none⟩:Addr).add j)=some u:=fun j u hu=>by
  match j,hu with
  |0,hu=>
   obtain rfl:t=u:=by simpa using hu
   exact hg
  |j+1,hu=>simp at hu
 obtain⟨ao,cap,e,-⟩:=hT.form
 have hone:∀u∈[t],u.oneCell'=true:=fun u hu=>by
  obtain rfl:=List.mem_singleton.1 hu
  rw[e];rfl
 have h63:rs.length+1≤maxLen:=by unfold maxLen;omega
 obtain⟨v',w',hr,k2,k3,_⟩:=run_append_own (P:=Tryz.prog) w 0 23 o.type 32 i0 (.slice none 0 0) 1 24 Tryz.underlying23 hi hz1 hz2 hz3 rfl (by decide) v rs.length vs own ⟨g,0,none⟩ 1 1 [t] rfl hnews hone h63 (by omega) (Nat.zero_le _)
 have hv:=append_block w 23 o.type 32 i0 (.slice none 0 0) 1 24 Tryz.underlying23 hi hz1 hz2 hz3 v rs.length vs own ⟨g,0,none⟩ 1 1 [t] rfl hnews hone h63 (by omega) v' w' hr
 have hfin:=hK v' w' (hM.pushed own hSlt hT hTlt k2 k3 (hv.imp id fun e g2 h=>by rw[e]at h;injection h with h;omega)) k3 h3
 unfold Oper.wp execOp
 simp only[ho,resolve,invoke,builtin,Sem.run_bind,Sem.run_pure,Result.andThen_ok,List.map_toArray,List.map_cons,List.map_nil,hs,hx,hr]
 exact hfin
theorem wpList_pushR{w:World}{ops:Array Oper}{rest:List Oper}{o:Oper}{a:Act}{Q:Exit→Act→World→Prop}(hgd:o.guard=none)(s x:Operand)
 (ho:o.op=.call { callee:=.builtin .append,args:=#[s,x],argTypes:=#[23,23] })
 (N:Nat)(S T:Nat→Prop)(v:Value)(rs:List (List V))(hs:a.eval s=v)(hM:MR w N S v rs)(hSlt:∀b,S b→b<w.heap.size)
 (g:Nat)(r:List V)(t:Value)(hx:a.eval x=.slice (some ⟨g,0,none⟩) 1 1)(hg:w.cell? ⟨g,0,none⟩=some t)
 (hT:LF w N T t r)(hTlt:∀b,T b→b<w.heap.size∧¬S b)(hlen:rs.length+1≤1048576)
 (hK:∀v' w',MR w' N (fun b=>S b∨T b∨(w.heap.size≤b∧b<w'.heap.size)) v' (rs++[r])→w.grownBy w' v.ownBlock→(∀g,v.ownBlock=some g→S g)→wpList Tryz.prog ops Q rest (a.put o.dst v') w'):
 wpList Tryz.prog ops Q (o::rest) a w:=
 wpList_plain hgd fun _ hK2=>wp_pushR s x ho N S T v rs hs hM hSlt g r t hx hg hT hTlt hlen fun v' w' h1 h2 h3=>hK2 _ _ (hK v' w' h1 h2 h3)
end Go.Proofs.YtmpldjbdhbapbaaGreatDoor.tab
