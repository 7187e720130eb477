/- Values that a function makes: which blocks they stand in, and what an append to a list of such ones leaves. -/
import Derived.Test.YtcaeipdgbaligaaGreatDoorVSameA
import Derived.Laws.AppendOwn
import Derived.Laws.AppendOwnNone
set_option linter.unusedSimpArgs false
set_option linter.unusedVariables false
namespace Go.Proofs.YtcaeipdgbaligaaGreatDoor.val
open Go.ChangeShapes Go.WideShapes Go.ChangeAt Go.RowKit kit dec
theorem _root_.Go.Proofs.YtcaeipdgbaligaaGreatDoor.Tryz.infoV:(Tryz.prog.info? 38).map (fun i=>(i.zero.map (·.cells.size),i.size,i.bytes))=some (some 6,6,80):=by kernel_rfl
def six:V→Value→List Value
 |.mk k b n t x _,s=>[.int .i64 k,.bool b,.int .i64 n,.string t,.string x,s]
def kids:V→List V
 |.mk _ _ _ _ _ l=>l
def okV(N:Nat):V→Prop
 |.mk k _ n t x _=>In64 k∧In64 n∧t.size≤N∧x.size≤N
def rowL:List (V×Value)→List Value
 |[]=>[]
 |p::r=>six p.1 p.2++rowL r
theorem six_len(v:V)(s:Value):(six v s).length=6:=by cases v;rfl
theorem rowL_len:∀ps:List (V×Value),(rowL ps).length=ps.length * 6
 |[]=>rfl
 |p::r=>by rw[rowL,List.length_append,six_len,rowL_len r,List.length_cons];omega
theorem rowL_app:∀a b:List (V×Value),rowL (a++b)=rowL a++rowL b
 |[],b=>rfl
 |p::r,b=>by rw[List.cons_append,rowL,rowL,rowL_app r b,List.append_assoc]
theorem rowL_at:∀(ps:List (V×Value)) (j:Nat) (hj:j<ps.length) (i:Nat),i<6→(rowL ps)[6 * j+i]? = (six ps[j].1 ps[j].2)[i]?
 |p::r,0,_,i,hi=>by
  rw[rowL,List.getElem?_append_left (by rw[six_len];omega)]
  simp
 |p::r,j+1,hj,i,hi=>by
  rw[rowL,List.getElem?_append_right (by rw[six_len];omega),six_len,show 6 * (j+1)+i-6=6 * j+i by omega]
  simpa using rowL_at r j (by simpa using hj) i hi
 |[],j,hj,_,_=>by simp at hj
inductive LF(w:World)(N:Nat):(Nat→Prop)→Value→List V→Prop
 |mk {S:Nat→Prop} {v:Value} {l:List V} (ps:List (V×Value)) (P:Nat→Nat→Prop) (e:l=ps.map (·.1)) (hN:ps.length≤N) (own:w.ownsRow 0 38 6 v ps.length (rowL ps))
  (hS:∀g,v.ownBlock=some g→S g) (nb:∀g,v.ownBlock=some g→∀j,¬P j g) (sub:∀j b,P j b→S b) (dis:∀i j b,P i b→P j b→i=j) (ok:∀p∈ps,okV N p.1)
  (h:∀j (hj:j<ps.length),LF w N (P j) ps[j].2 (kids ps[j].1)):LF w N S v l
theorem own_stay{w w':World}{B:Nat}{t:TypeId}{k:Nat}{v:Value}{n:Nat}{xs:List Value}(h:w.ownsRow B t k v n xs)(hb:∀g,v.ownBlock=some g→w'.heap[g]? = w.heap[g]?):w'.ownsRow B t k v n xs:=by
 refine⟨h.1,?_⟩
 rcases h.2 with hn|⟨g,cap,cur,rfl,hb0,hg,rest⟩
 ·exact .inl hn
 ·exact .inr ⟨g,cap,cur,rfl,hb0,(hb g rfl).trans hg,rest⟩
theorem LF.nil(w:World)(N:Nat)(S:Nat→Prop):LF w N S (.slice none 0 0) []:=
 .mk [] (fun _ _=>False) rfl (Nat.zero_le _) (World.ownsRow_nil _ _ _ _) (fun g h=>by cases h) (fun g h=>by cases h) (fun _ _ h=>h.elim) (fun _ _ _ h=>h.elim) (fun p hp=>by cases hp) (fun j hj=>by simp at hj)
theorem LF.stay{w w':World}{N:Nat}{S:Nat→Prop}{v:Value}{l:List V}(h:LF w N S v l)(hb:∀b,S b→b<w.heap.size→w'.heap[b]? = w.heap[b]?):LF w' N S v l:=by
 induction h with
 |mk ps P e hN own hS nb sub dis ok h ih=>
  exact .mk ps P e hN (own_stay own fun g hg=>hb g (hS g hg) (own.lt g hg).2) hS nb sub dis ok (fun j hj=>ih j hj fun b hP hlt=>hb b (sub j b hP) hlt)
theorem LF.mono{w:World}{N:Nat}{S S':Nat→Prop}{v:Value}{l:List V}(h:LF w N S v l)(hs:∀b,S b→S' b):LF w N S' v l:=by
 cases h with
 |mk ps P e hN own hS nb sub dis ok h=>exact .mk ps P e hN own (fun g hg=>hs g (hS g hg)) nb (fun j b hP=>hs b (sub j b hP)) dis ok h
theorem LF.form{w:World}{N:Nat}{S:Nat→Prop}{v:Value}{l:List V}(h:LF w N S v l):∃ao cap,v=.slice ao l.length cap∧l.length≤N:=by
 cases h with
 |mk ps P e hN own hS nb sub dis ok h=>
  subst e
  rcases own.2 with⟨rfl,hn⟩|⟨g,cap,cur,rfl,_⟩
  ·exact⟨none,0,by simp[hn],by simpa using hN⟩
  ·exact⟨some ⟨g,0,none⟩,cap,by simp,by simpa using hN⟩
theorem own_six{w:World}{g n cap:Nat}{ps:List (V×Value)}(own:w.ownsRow 0 38 6 (.slice (some ⟨g,0,none⟩) n cap) ps.length (rowL ps))(j:Nat)(hj:j<ps.length){k:Int}{bo:Bool}{m:Int}{t x:ByteArray}{l:List V}(he:ps[j].1=.mk k bo m t x l):
 Row6 w g (6 * j) k bo m t x ps[j].2:=by
 have hc:∀i,i<6→∀u,(six ps[j].1 ps[j].2)[i]? = some u→w.cell? ⟨g,6 * j+i,none⟩=some u:=by
  intro i hi u hu
  have:=own.cells (g:=g) rfl (6 * j+i) u (by rw[rowL_at ps j hj i hi];exact hu)
  rwa [Go.WideShapes.add_plain,Nat.zero_add]at this
 rw[he]at hc
 exact⟨(own.lt g rfl).2,hc 0 (by decide) _ rfl,hc 1 (by decide) _ rfl,hc 2 (by decide) _ rfl,hc 3 (by decide) _ rfl,hc 4 (by decide) _ rfl,hc 5 (by decide) _ rfl⟩
theorem LF.toLA{w:World}{N:Nat}{S:Nat→Prop}{v:Value}{l:List V}(h:LF w N S v l):LA w N v l:=by
 induction h with
 | mk ps P e hN own hS nb sub dis ok h ih =>
  subst e
  rcases own.2 with⟨rfl,hn⟩|⟨g,cap,cur,rfl,_⟩
  ·obtain rfl:ps=[]:=List.eq_nil_of_length_eq_zero hn
   exact .mk none 0 [] (Nat.zero_le _) (fun j hj=>by simp at hj)
  ·have:=LA.mk (w:=w) (N:=N) (some ⟨g,0,none⟩) cap (ps.map (·.1)) (by simpa using hN) (fun j hj=>by
    have hj':j<ps.length:=by simpa using hj
    rw[List.getElem_map]
    have hok:=ok ps[j] (List.getElem_mem _)
    have hi:=ih j hj'
    rcases he:ps[j].1 with⟨k,bo,m,t,x,l⟩
    rw[he]at hok hi
    exact .mk g 0 (6 * j) k bo m t x l ps[j].2 (by rw[Nat.zero_add];exact own_six own j hj' he) hok.1 hok.2.1 hok.2.2.1 hok.2.2.2 hi)
   simpa using this
section
variable{P:Program}(w:World)
theorem append_block(t ty e:TypeId)(i:TypeInfo)(z:Value)(size bytes:Nat)(ht:P.underlying t=some (.slice e))(hi:P.info? e=some i)(hz:i.zero=some z)
 (hsize:i.size=size)(hby:i.bytes=bytes)(v:Value)(n:Nat)(xs:List Value)(hown:w.ownsRow 0 e size v n xs)
 (a:Addr)(m c:Nat)(news:List Value)(hl:news.length=m * size)(hnews:∀j u,news[j]? = some u→w.cell? (a.add j)=some u)(h1:∀u∈news,u.oneCell'=true)
 (h63:n+m≤maxLen)(hbytes:(n+m) * bytes≤140737488355328)(v':Value)(w':World)(hr:(Builtin.append_ #[t,t] ty #[v,.slice (some a) m c]).run P w=.ok v' w'):
 v'.ownBlock=v.ownBlock∨v'.ownBlock=some w.heap.size:=by
 subst hsize
 subst hby
 rcases hown.2 with⟨rfl,rfl⟩|⟨g,cap,cur,rfl,hbg,hg,hnc,hcm,hcs,htake⟩
 ·by_cases hm:m=0
  ·subst hm
   obtain rfl:news=[]:=List.eq_nil_of_length_eq_zero (by simpa using hl)
   left
   simp[Builtin.append_,run_underlying ht,sizeOf,typeInfo,hi,Builtin.lenOf,Builtin.firstCells,loadCells,loadCellsFrom]at hr
   rw[←hr.1]
  ·right
   rw[run_append_nil (P:=P) w t ty e i z ht hi hz a m c news hl hnews (by omega) (by simp only[maxLen]at h63;omega) (by have hb:=hbytes;simp only[Nat.zero_add]at hb;omega)]at hr
   injection hr with e1 e2
   rw[←e1]
   rfl
 ·by_cases hroom:n+m≤cap
  ·left
   rw[run_append_room (P:=P) w t ty e i ht hi g n cap cur hg a m c news hl hnews h1 hroom (by rw[hl,hcs,←Nat.add_mul];exact Nat.mul_le_mul_right _ hroom)]at hr
   injection hr with e1 e2
   rw[←e1]
   rfl
  ·right
   rw[run_append_grow (P:=P) w t ty e i z ht hi hz ⟨g,0,none⟩ n cap xs hown.1 (hown.cells (g:=g) rfl) a m c news hl hnews (by omega) (by simp only[maxLen]at h63;omega) (growslice_fits (by omega) hbytes)]at hr
   injection hr with e1 e2
   rw[←e1]
   rfl
end
theorem rowL_one(ps:List (V×Value))(h:∀p∈ps,p.2.oneCell'=true):∀u∈rowL ps,u.oneCell'=true:=by
 induction ps with
 |nil=>intro u hu;cases hu
 | cons p r ih =>
  intro u hu
  rw[rowL,List.mem_append]at hu
  rcases hu with hu|hu
  ·rcases p with⟨⟨k,b,n,t,x,l⟩,s⟩
   have hs:=h (.mk k b n t x l,s) (by simp)
   simp[six]at hu
   rcases hu with rfl|rfl|rfl|rfl|rfl|rfl<;>first|rfl|exact hs
  ·exact ih (fun q hq=>h q (by simp[hq])) u hu
theorem LF.pushed{w w':World}{N:Nat}{S:Nat→Prop}{v v':Value}{ps ms:List (V×Value)}{Q R:Nat→Nat→Prop}(hlen:ps.length+ms.length≤N)
 (hS:∀g,v.ownBlock=some g→S g)(nb:∀g,v.ownBlock=some g→∀j,¬Q j g)(sub:∀j b,Q j b→S b)(dis:∀i j b,Q i b→Q j b→i=j)(ok:∀p∈ps,okV N p.1)
 (h:∀j (hj:j<ps.length),LF w N (Q j) ps[j].2 (kids ps[j].1))(hSlt:∀b,S b→b<w.heap.size)
 (hR:∀j (hj:j<ms.length),LF w N (R j) ms[j].2 (kids ms[j].1))(hRlt:∀j b,R j b→b<w.heap.size∧¬S b)(hRd:∀i j b,R i b→R j b→i=j)(hok:∀p∈ms,okV N p.1)
 (own:w'.ownsRow 0 38 6 v' (ps.length+ms.length) (rowL ps++rowL ms))(hg:w.grownBy w' v.ownBlock)(hv:v'.ownBlock=v.ownBlock∨v'.ownBlock=some w.heap.size):
 LF w' N (fun b=>S b∨(∃j,R j b)∨(w.heap.size≤b∧b<w'.heap.size)) v' (ps.map (·.1)++ms.map (·.1)):=by
 have hlt:=own.lt
 have old:∀g,v'.ownBlock=some g→(v.ownBlock=some g)∨g=w.heap.size:=by
  intro g hg'
  rcases hv with e|e
  ·exact .inl (e ▸ hg')
  ·rw[hg']at e;injection e with e;exact .inr e
 refine .mk (ps++ms) (fun j b=>if j<ps.length then Q j b else R (j-ps.length) b) (by rw[List.map_append]) (by rw[List.length_append];exact hlen) (by rw[List.length_append,rowL_app];exact own) ?_ ?_ ?_ ?_ ?_ ?_
 ·intro g hg'
  rcases old g hg' with e|e
  ·exact .inl (hS g e)
  ·exact .inr (.inr ⟨by omega,(hlt g hg').2⟩)
 ·intro g hg' j hP
  rcases old g hg' with e|e
  ·split at hP
   ·exact nb g e j hP
   ·exact(hRlt _ _ hP).2 (hS g e)
  ·split at hP
   ·have:=hSlt g (sub j g hP);omega
   ·have:=(hRlt _ _ hP).1;omega
 ·intro j b hP
  split at hP
  ·exact .inl (sub j b hP)
  ·exact .inr (.inl ⟨_,hP⟩)
 ·intro i j b h1 h2
  split at h1<;>split at h2
  ·exact dis i j b h1 h2
  ·exact((hRlt _ _ h2).2 (sub i b h1)).elim
  ·exact((hRlt _ _ h1).2 (sub j b h2)).elim
  ·have:=hRd _ _ b h1 h2;omega
 ·intro p hp
  rcases List.mem_append.1 hp with hp|hp
  ·exact ok p hp
  ·exact hok p hp
 ·intro j hj
  by_cases hlt':j<ps.length
  ·simp only[if_pos hlt',List.getElem_append_left hlt']
   exact(h j hlt').stay fun b hb hb2=>hg.block b hb2 (fun e=>nb b e.symm j hb)
  ·simp only[if_neg hlt',List.getElem_append_right (Nat.le_of_not_lt hlt')]
   refine(hR (j-ps.length) (by rw[List.length_append]at hj;omega)).stay fun b hb hb2=>hg.block b hb2 (fun e=>(hRlt _ b hb).2 (hS b e.symm))
theorem wp_push{w:World}{o:Oper}{a:Act}{K:Act→World→Prop}{Q:Exit→Act→World→Prop}(s x:Operand)
 (ho:o.op=.call { callee:=.builtin .append,args:=#[s,x],argTypes:=#[24,24] })
 (N:Nat)(hN:N≤1048576)(S:Nat→Prop)(v:Value)(l:List V)(hs:a.eval s=v)(hL:LF w N S v l)(hSlt:∀b,S b→b<w.heap.size)
 (ad:Addr)(c m:Nat)(ms:List (V×Value))(R:Nat→Nat→Prop)(hx:a.eval x=.slice (some ad) m c)(hm:m=ms.length)(hnews:∀j u,(rowL ms)[j]? = some u→w.cell? (ad.add j)=some u)
 (hR:∀j (hj:j<ms.length),LF w N (R j) ms[j].2 (kids ms[j].1))(hRlt:∀j b,R j b→b<w.heap.size∧¬S b)(hRd:∀i j b,R i b→R j b→i=j)(hok:∀p∈ms,okV N p.1)(hlen:l.length+ms.length≤N)
 (hK:∀v' w',LF w' N (fun b=>S b∨(∃j,R j b)∨(w.heap.size≤b∧b<w'.heap.size)) v' (l++ms.map (·.1))→w.grownBy w' v.ownBlock→(∀g,v.ownBlock=some g→S g)→K (a.put o.dst v') w'):
 o.wp Tryz.prog a w K Q:=by
 subst hm
 obtain⟨i0,hi,hp⟩:=Option.map_eq_some_iff.1 Tryz.infoV
 have hz2:i0.size=6:=congrArg (fun p=>p.2.1) hp
 have hz3:i0.bytes=80:=congrArg (fun p=>p.2.2) hp
 have hz1:i0.zero.map (·.cells.size)=some 6:=congrArg (fun p=>p.1) hp
 obtain⟨z,hz,hzs⟩:=Option.map_eq_some_iff.1 hz1
 cases hL with
 | mk ps P e hN1 own hS nb sub dis ok h =>
  subst e
  rw[List.length_map]at hlen
  have hone:∀u∈rowL ms,u.oneCell'=true:=by
   refine rowL_one ms fun p hp=>?_
   obtain⟨j,hj,rfl⟩:=List.getElem_of_mem hp
   obtain⟨ao,cap,e,_⟩:=(hR j hj).form
   rw[e];rfl
  have h63:ps.length+ms.length≤maxLen:=by unfold maxLen;omega
  obtain⟨v',w',hr,h2,h3,_⟩:=run_append_own (P:=Tryz.prog) w 0 24 o.type 38 i0 z 6 80 Tryz.underlying24 hi hz hz2 hz3 hzs (by decide) v ps.length (rowL ps) own ad ms.length c (rowL ms) (rowL_len ms) hnews hone h63 (by omega) (Nat.zero_le _)
  have hv:=append_block w 24 o.type 38 i0 z 6 80 Tryz.underlying24 hi hz hz2 hz3 v ps.length (rowL ps) own ad ms.length c (rowL ms) (rowL_len ms) hnews hone h63 (by omega) v' w' hr
  have hfin:=hK v' w' (LF.pushed (ps:=ps) (ms:=ms) (Q:=P) (R:=R) hlen hS nb sub dis ok h hSlt hR hRlt hRd hok h2 h3 hv) h3 hS
  unfold Oper.wp execOp
  simp only[ho,resolve,invoke,builtin,Sem.run_bind,Sem.run_pure,Result.andThen_ok,List.map_toArray,List.map_cons,List.map_nil,hs,hx,hr]
  exact hfin
theorem wpList_push{w:World}{ops:Array Oper}{rest:List Oper}{o:Oper}{a:Act}{Q:Exit→Act→World→Prop}(hgd:o.guard=none)(s x:Operand)
 (ho:o.op=.call { callee:=.builtin .append,args:=#[s,x],argTypes:=#[24,24] })
 (N:Nat)(hN:N≤1048576)(S:Nat→Prop)(v:Value)(l:List V)(hs:a.eval s=v)(hL:LF w N S v l)(hSlt:∀b,S b→b<w.heap.size)
 (ad:Addr)(c m:Nat)(ms:List (V×Value))(R:Nat→Nat→Prop)(hx:a.eval x=.slice (some ad) m c)(hm:m=ms.length)(hnews:∀j u,(rowL ms)[j]? = some u→w.cell? (ad.add j)=some u)
 (hR:∀j (hj:j<ms.length),LF w N (R j) ms[j].2 (kids ms[j].1))(hRlt:∀j b,R j b→b<w.heap.size∧¬S b)(hRd:∀i j b,R i b→R j b→i=j)(hok:∀p∈ms,okV N p.1)(hlen:l.length+ms.length≤N)
 (hK:∀v' w',LF w' N (fun b=>S b∨(∃j,R j b)∨(w.heap.size≤b∧b<w'.heap.size)) v' (l++ms.map (·.1))→w.grownBy w' v.ownBlock→(∀g,v.ownBlock=some g→S g)→wpList Tryz.prog ops Q rest (a.put o.dst v') w'):
 wpList Tryz.prog ops Q (o::rest) a w:=
 wpList_plain hgd fun _ hK2=>wp_push s x ho N hN S v l hs hL hSlt ad c m ms R hx hm hnews hR hRlt hRd hok hlen fun v' w' h1 h2 h3=>hK2 _ _ (hK v' w' h1 h2 h3)
theorem wp_push1{w:World}{o:Oper}{a:Act}{K:Act→World→Prop}{Q:Exit→Act→World→Prop}(s x:Operand)
 (ho:o.op=.call { callee:=.builtin .append,args:=#[s,x],argTypes:=#[24,24] })
 (N:Nat)(hN:N≤1048576)(S T:Nat→Prop)(v:Value)(l:List V)(hs:a.eval s=v)(hL:LF w N S v l)(hSlt:∀b,S b→b<w.heap.size)
 (g:Nat)(e:V)(t:Value)(hx:a.eval x=.slice (some ⟨g,0,none⟩) 1 1)(hg:Blk w g (six e t).toArray 38)
 (hT:LF w N T t (kids e))(hTlt:∀b,T b→b<w.heap.size∧¬S b)(hok:okV N e)(hlen:l.length+1≤N)
 (hK:∀v' w',LF w' N (fun b=>S b∨T b∨(w.heap.size≤b∧b<w'.heap.size)) v' (l++[e])→w.grownBy w' v.ownBlock→(∀g,v.ownBlock=some g→S g)→K (a.put o.dst v') w'):
 o.wp Tryz.prog a w K Q:=by
 refine wp_push s x ho N hN S v l hs hL hSlt ⟨g,0,none⟩ 1 1 [(e,t)] (fun j b=>j=0∧T b) hx rfl ?_ ?_ ?_ ?_ ?_ hlen ?_
 ·intro j u hu
  rw[Go.WideShapes.add_plain,Nat.zero_add]
  refine hg.cell j ?_
  simpa[rowL]using hu
 ·intro j hj
  obtain rfl:j=0:=by simpa using hj
  exact hT.mono fun b hb=>⟨rfl,hb⟩
 ·rintro j b ⟨_,hb⟩
  exact hTlt b hb
 ·rintro i j b ⟨hi,_⟩ ⟨hj,_⟩;omega
 ·intro p hp
  obtain rfl:=List.mem_singleton.1 hp
  exact hok
 ·intro v' w' h1 h2 h3
  refine hK v' w' (h1.mono fun b hb=>?_) h2 h3
  rcases hb with hb|⟨_,_,hb⟩|hb
  ·exact .inl hb
  ·exact .inr (.inl hb)
  ·exact .inr (.inr hb)
theorem LF.setCell{w:World}{N:Nat}{S:Nat→Prop}{v:Value}{l:List V}(h:LF w N S v l)(a:Addr)(hne:¬S a.block)(u:Value):LF (w.setCell a u) N S v l:=
 h.stay fun b hS _=>Below.heap_setCell w a u b (fun e=>hne (e ▸ hS))
def set6(w:World)(b:Nat)(v0 v1 v2 v3 v4 v5:Value):World:=(((((w.setCell ⟨b,0,none⟩ v0).setCell ⟨b,1,none⟩ v1).setCell ⟨b,2,none⟩ v2).setCell ⟨b,3,none⟩ v3).setCell ⟨b,4,none⟩ v4).setCell ⟨b,5,none⟩ v5
theorem Blk.set6{w:World}{b:Nat}{c0 c1 c2 c3 c4 c5:Value}{t:TypeId}(h:Blk w b #[c0,c1,c2,c3,c4,c5] t)(v0 v1 v2 v3 v4 v5:Value):Blk (val.set6 w b v0 v1 v2 v3 v4 v5) b #[v0,v1,v2,v3,v4,v5] t:=
 (((((h.set 0 v0).set 1 v1).set 2 v2).set 3 v3).set 4 v4).set 5 v5
theorem heap_set6(w:World)(b:Nat)(v0 v1 v2 v3 v4 v5:Value)(k:Nat)(h:k≠b):(set6 w b v0 v1 v2 v3 v4 v5).heap[k]? = w.heap[k]?:=by
 unfold set6
 rw[Below.heap_setCell _ _ _ _ h,Below.heap_setCell _ _ _ _ h,Below.heap_setCell _ _ _ _ h,Below.heap_setCell _ _ _ _ h,Below.heap_setCell _ _ _ _ h,Below.heap_setCell _ _ _ _ h]
theorem Below.set6{B:Nat}{a w:World}(h:Below B a w){b:Nat}(hb:B≤b)(v0 v1 v2 v3 v4 v5:Value):Below B a (val.set6 w b v0 v1 v2 v3 v4 v5):=by
 unfold val.set6
 exact(((((h.setCell (p:=⟨b,0,none⟩) hb v0).setCell (p:=⟨b,1,none⟩) hb v1).setCell (p:=⟨b,2,none⟩) hb v2).setCell (p:=⟨b,3,none⟩) hb v3).setCell (p:=⟨b,4,none⟩) hb v4).setCell (p:=⟨b,5,none⟩) hb v5
theorem LF.set6{w:World}{N:Nat}{S:Nat→Prop}{v:Value}{l:List V}(h:LF w N S v l)(b:Nat)(hne:¬S b)(v0 v1 v2 v3 v4 v5:Value):LF (val.set6 w b v0 v1 v2 v3 v4 v5) N S v l:=
 h.stay fun k hS _=>heap_set6 w b _ _ _ _ _ _ k (fun e=>hne (e ▸ hS))
theorem infoV6:(Tryz.prog.info? 38).map (·.size)=some 6:=by kernel_rfl
end Go.Proofs.YtcaeipdgbaligaaGreatDoor.val
