/- Texts VWt, HMem, TextDec, TabIdx, one behind the other. -/
import Derived.Test.YtcaeipdgbaligaaGreatDoorVSameA
import Derived.Laws.AppendOwn
set_option linter.unusedSimpArgs false
set_option linter.unusedVariables false
set_option maxRecDepth 100000
namespace Go.Proofs.YtcaeipdgbaligaaGreatDoor.val
open Go.ChangeShapes Go.WideShapes Go.ChangeAt Go.RowKit kit
mutual
def wtV:V→Nat
 |.mk _ _ _ t x l=>1+t.size+x.size+wtL l
def wtL:List V→Nat
 |[]=>0
 |v::r=>wtV v+wtL r
end
theorem wtL_le{H:Type}:∀(l:List V) (ds:List (DataW H)) (hlen:ds.length=l.length) (h:∀j (h1:j<l.length) (h2:j<ds.length),wtV l[j]≤Rows.uptoBulk ds[j]),wtL l≤Rows.uptoBulkAll ds
 |[],[],_,_=>by simp[wtL]
 |v::l,d::ds,hlen,h=>by
  rw[wtL,Rows.uptoBulkAll]
  have h0:=h 0 (by simp) (by simp)
  have:=wtL_le l ds (by simpa using hlen) (fun j h1 h2=>h (j+1) (by simpa using h1) (by simpa using h2))
  simp at h0
  omega
section
variable{H:Type}{enc:TypeId×Value→H}{W:World}{N:Nat}
theorem ea_of_trodW{fuel:Nat}{cs:List Value}{y:DataW H×List MemPlace}{b off o:Nat}
 (ih:∀m,m<fuel→∀{cs x},DataW.trod enc Tryz.prog W 0 (fun _=>true) true m 24 cs=some x→Bd N x.1→∃s l,cs=[s]∧LA W N s l∧wtL l+1≤Rows.uptoBulk x.1)
 (h:DataW.trod enc Tryz.prog W 0 (fun _=>true) true fuel 38 cs=some y)(hB:Bd N y.1)(hc:∀i,i<6→W.cell? ⟨b,off+o+i,none⟩=cs[i]?):∃v,EA W N (some ⟨b,off,none⟩) o v∧wtV v≤Rows.uptoBulk y.1:=by
 obtain⟨xs,n',rfl,rfl,hcl,hxl,hf⟩:=DataW.trod_struct Tryz.underlying38 h
 have hC:Tryz.prog.cellsOf 38=6:=by kernel_rfl
 have hC1:Tryz.prog.cellsOf 3=1:=by kernel_rfl
 have hC2:Tryz.prog.cellsOf 4=1:=by kernel_rfl
 have hC3:Tryz.prog.cellsOf 2=1:=by kernel_rfl
 have hC4:Tryz.prog.cellsOf 9=1:=by kernel_rfl
 have hC5:Tryz.prog.cellsOf 24=1:=by kernel_rfl
 rw[hC]at hcl
 match cs,hcl with
 | [c0, c1, c2, c3, c4, c5], _ =>
  match xs,hxl with
  | [y0, y1, y2, y3, y4, y5], _ =>
   have f0:=hf 0 _ rfl
   have f1:=hf 1 _ rfl
   have f2:=hf 2 _ rfl
   have f3:=hf 3 _ rfl
   have f4:=hf 4 _ rfl
   have f5:=hf 5 _ rfl
   simp[hC1,hC2,hC3,hC4,hC5]at f0 f1 f2 f3 f4 f5
   obtain⟨k,e0,g0,w0⟩:=DataW.trod_int Tryz.underlying3 f0
   obtain⟨bo,e1,g1⟩:=DataW.trod_bool Tryz.underlying4 f1
   obtain⟨n,e2,g2,w2⟩:=DataW.trod_int Tryz.underlying2 f2
   obtain⟨t,e3,g3,w3⟩:=DataW.trod_string Tryz.underlying9 f3
   obtain⟨x,e4,g4,w4⟩:=DataW.trod_string Tryz.underlying9 f4
   obtain⟨s,l,e5,hs,hwt⟩:=ih n' (by omega) f5 (hB.agg (by simp))
   have hb3:Bd N y3.1:=hB.agg (by simp)
   have hb4:Bd N y4.1:=hB.agg (by simp)
   simp at e0 e1 e2 e3 e4 e5
   subst e0 e1 e2 e3 e4 e5
   rw[g3]at hb3
   rw[g4]at hb4
   have c0:=hc 0 (by decide)
   have c1:=hc 1 (by decide)
   have c2:=hc 2 (by decide)
   have c3:=hc 3 (by decide)
   have c4:=hc 4 (by decide)
   have c5:=hc 5 (by decide)
   have hlt:b<W.heap.size:=by
    obtain⟨ob,ho,_⟩:=cells_of_cell c0
    exact(Array.getElem?_eq_some_iff.1 ho).1
   refine⟨.mk k bo n t x l,.mk b off o k bo n t x l _ ⟨hlt,c0,c1,c2,c3,c4,c5⟩ (wf64 w0) (wf64 w2) (hb3.text w3) (hb4.text w4) hs,?_⟩
   rw[wtV]
   simp only[List.map_cons,List.map_nil,Rows.uptoBulk,Rows.uptoBulkAll,g3,g4]
   have z3:t.data.toList.length=t.size:=by simp
   have z4:x.data.toList.length=x.size:=by simp
   rw[z3,z4]
   omega
theorem la_of_trodW:∀fuel {cs:List Value} {x:DataW H×List MemPlace},DataW.trod enc Tryz.prog W 0 (fun _=>true) true fuel 24 cs=some x→Bd N x.1→∃s l,cs=[s]∧LA W N s l∧wtL l+1≤Rows.uptoBulk x.1:=by
 intro fuel
 induction fuel using Nat.strongRecOn with
 | ind fuel ih =>
  intro cs x h hB
  have hC:Tryz.prog.cellsOf 38=6:=by kernel_rfl
  rcases DataW.trod_slice Tryz.underlying24 h with⟨rfl,rfl⟩|⟨a,len,cap,elems,rest,n,rfl,rfl,rfl,_,hl,hm,hlen,hel,_,_⟩
  ·exact⟨_,[],rfl,.mk none 0 [] (by simp) (fun j hj=>by simp at hj),by simp[wtL,bulk_one]⟩
  ·have hNl:len≤N:=by
    have:=hB.len (by rw[List.length_map];omega)
    rw[List.length_map]at this
    omega
   obtain⟨b,off,tg⟩:=a
   have get:∀j (hj:j<len),∃c6,W.cells? 0 ((⟨b,off,tg⟩:Addr).add (j * 6)) 6=some c6∧DataW.trod enc Tryz.prog W 0 (fun _=>true) true n 38 c6=some (elems[j]'(by omega)):=by
    intro j hj
    have h1:=hel j hj
    rw[hC,List.getElem?_eq_getElem (by omega)]at h1
    rw[Option.bind_eq_some_iff]at h1
    obtain⟨c6,h2,h3⟩:=h1
    exact⟨c6,h2,h3⟩
   have htg:0<len→tg=none:=by
    intro h0
    obtain⟨c6,h2,_⟩:=get 0 h0
    obtain⟨_,h5,h6⟩:=World.cells?_some h2
    have h7:=h6 0 (by decide)
    rw[List.getElem?_eq_getElem (by omega)]at h7
    simpa[Addr.add]using World.cell?_spot h7
   have each:∀j (hj:j<len),∃v,EA W N (some ⟨b,off,tg⟩) (6 * j) v∧wtV v≤Rows.uptoBulk (elems[j]'(by omega)).1:=by
    intro j hj
    obtain rfl:=htg (by omega)
    obtain⟨c6,h2,h3⟩:=get j hj
    have hmem:elems[j]'(by omega)∈elems:=List.getElem_mem _
    obtain⟨_,h5,h6⟩:=World.cells?_some h2
    exact ea_of_trodW (fun m hm=>ih m (by omega)) h3 (hB.elem (List.mem_map.2 ⟨_,hmem,rfl⟩)) (fun i hi=>by
     have h7:=h6 i hi
     rw[Go.WideShapes.add_plain,Go.WideShapes.add_plain]at h7
     rw[Nat.mul_comm 6 j]
     exact h7)
   have hch:∃l:List V,l.length=len∧∀j (hj:j<l.length) (hj2:j<len),EA W N (some ⟨b,off,tg⟩) (6 * j) l[j]∧wtV l[j]≤Rows.uptoBulk (elems[j]'(by omega)).1:=by
    refine⟨(List.finRange len).map fun j=>(each j.1 j.2).choose,by simp,fun j hj hj'=>?_⟩
    simp only[List.getElem_map,List.getElem_finRange]
    exact(each j hj').choose_spec
   obtain⟨l,rfl,hel2⟩:=hch
   refine⟨_,l,rfl,.mk _ cap l hNl (fun j hj=>(hel2 j hj hj).1),?_⟩
   have:=wtL_le l (elems.map (·.1)) (by rw[List.length_map];omega) (fun j h1 h2=>by rw[List.getElem_map];exact(hel2 j h1 h1).2)
   simp only[Rows.uptoBulk]
   omega
end
end Go.Proofs.YtcaeipdgbaligaaGreatDoor.val
set_option linter.unusedSimpArgs false
set_option linter.unusedVariables false
namespace Go.Proofs.YtcaeipdgbaligaaGreatDoor.hyp
open Go.ChangeShapes Go.WideShapes Go.ChangeAt Go.RowKit kit
def RowA(w:World)(B:Nat)(v:Value)(L:List Value):Prop:=
 (∃ao cap,v=.slice ao 0 cap∧L=[])∨∃b off cap,v=.slice (some ⟨b,off,none⟩) L.length cap∧0<L.length∧L.length≤cap∧b<B∧∀j (h:j<L.length),w.cell? ⟨b,off+j,none⟩=some L[j]
theorem cell_heap{w w':World}{k i:Nat}(h:w'.heap[k]? = w.heap[k]?):w'.cell? ⟨k,i,none⟩=w.cell? ⟨k,i,none⟩:=by
 unfold World.cell?
 simp only[h]
def CellsStay(w w':World):Prop:=∀(k:Nat) (o:Obj),w.heap[k]? = some o→o.isCells=true→w'.heap[k]? = w.heap[k]?
theorem CellsStay.cell{w w':World}(h:CellsStay w w'){k i:Nat}{v:Value}(hc:w.cell? ⟨k,i,none⟩=some v):w'.cell? ⟨k,i,none⟩=some v:=by
 obtain⟨o,ho,hi⟩:=cells_of_cell hc
 exact(cell_heap (h k o ho hi)).trans hc
theorem CellsStay.blk{w w':World}(h:CellsStay w w'){b:Nat}{cs:Array Value}{t:TypeId}(hb:Blk w b cs t):Blk w' b cs t:=(h b _ hb rfl).trans hb
theorem CellsStay.refl(w:World):CellsStay w w:=fun _ _ _ _=>rfl
theorem CellsStay.trans{a b c:World}(h:CellsStay a b)(k:CellsStay b c):CellsStay a c:=fun i o ho hi=>(k i o ((h i o ho hi).trans ho) hi).trans (h i o ho hi)
theorem stay_of_below{w w':World}(h:Below w.heap.size w w'):CellsStay w w':=fun k o ho _=>h.block k (Array.getElem?_eq_some_iff.1 ho).1
theorem _root_.Go.Proofs.YtcaeipdgbaligaaGreatDoor.sB{w w':World}(h:Below w.heap.size w w'){k i:Nat}{v:Value}(hc:w.cell? ⟨k,i,none⟩=some v):w'.cell? ⟨k,i,none⟩=some v:=(stay_of_below h).cell hc
theorem RowA.stay{w w':World}{B:Nat}{v:Value}{L:List Value}(h:RowA w B v L)(hs:CellsStay w w'):RowA w' B v L:=by
 rcases h with h|⟨b,off,cap,hv,h0,hc,hB,hj⟩
 ·exact .inl h
 ·exact .inr ⟨b,off,cap,hv,h0,hc,hB,fun j h=>hs.cell (hj j h)⟩
theorem RowA.mono{w:World}{B B':Nat}{v:Value}{L:List Value}(h:RowA w B v L)(hB:B≤B'):RowA w B' v L:=by
 rcases h with h|⟨b,off,cap,hv,h0,hc,hb,hj⟩
 ·exact .inl h
 ·exact .inr ⟨b,off,cap,hv,h0,hc,by omega,hj⟩
theorem RowA.form{w:World}{B:Nat}{v:Value}{L:List Value}(h:RowA w B v L):∃ao cap,v=.slice ao L.length cap∧True∧∀j (hj:j<L.length),∃b off,ao=some ⟨b,off,none⟩∧b<B∧w.cell? ⟨b,off+j,none⟩=some L[j]:=by
 rcases h with⟨ao,cap,rfl,rfl⟩|⟨b,off,cap,rfl,h0,hc,hb,hj⟩
 ·exact⟨ao,cap,rfl,trivial,fun j hj=>by simp at hj⟩
 ·refine⟨_,cap,rfl,trivial,fun j h=>⟨b,off,rfl,hb,hj j h⟩⟩
theorem own_row{w:World}{B:Nat}{e:TypeId}{v:Value}{L:List Value}(h:w.ownsRow B e 1 v L.length L):RowA w w.heap.size v L:=by
 rcases h.2 with⟨hv,hn⟩|⟨g,cap,cur,hv,hg,hh,hc,_⟩
 ·exact .inl ⟨none,0,by rw[hv],List.eq_nil_of_length_eq_zero hn⟩
 ·by_cases h0:L=[]
  ·subst h0;exact .inl ⟨_,cap,hv,rfl⟩
  ·have hpos:=List.length_pos_iff.2 h0
   subst hv
   refine .inr ⟨g,0,cap,rfl,hpos,hc,(Array.getElem?_eq_some_iff.1 hh).1,fun j hj=>?_⟩
   rw[Nat.zero_add,h.cellAt j (by omega)]
   rw[List.getElem?_eq_getElem hj]
theorem RowA.news{w:World}{b off:Nat}{L:List Value}(hc:∀j (h:j<L.length),w.cell? ⟨b,off+j,none⟩=some L[j]):∀j u,L[j]? = some u→w.cell? ((⟨b,off,none⟩:Addr).add j)=some u:=by
 intro j u hu
 obtain⟨hj,rfl⟩:=List.getElem?_eq_some_iff.1 hu
 have hadd:(⟨b,off,none⟩:Addr).add j=⟨b,off+j,none⟩:=by unfold Addr.add;split<;>simp_all
 rw[hadd]
 exact hc j hj
def textsV(l:List ByteArray):List Value:=l.map .string
def masksV(l:List Nat):List Value:=l.map fun(s:Nat)=>.int .u16 (s:Int)
def numsV(l:List Int):List Value:=l.map (.int .i64)
@[simp] theorem textsV_length(l:List ByteArray):(textsV l).length=l.length:=by simp[textsV]
@[simp] theorem masksV_length(l:List Nat):(masksV l).length=l.length:=by simp[masksV]
@[simp] theorem numsV_length(l:List Int):(numsV l).length=l.length:=by simp[numsV]
structure TextsA(w:World)(B:Nat)(v:Value)(l:List ByteArray):Prop where
 row:RowA w B v (textsV l)
 size:∀s∈l,s.size≤maxLen
theorem TextsA.stay{w w':World}{B:Nat}{v:Value}{l:List ByteArray}(h:TextsA w B v l)(hs:CellsStay w w'):TextsA w' B v l:=⟨h.row.stay hs,h.size⟩
theorem TextsA.mono{w:World}{B B':Nat}{v:Value}{l:List ByteArray}(h:TextsA w B v l)(hB:B≤B'):TextsA w B' v l:=⟨h.row.mono hB,h.size⟩
theorem TextsA.form{w:World}{B:Nat}{v:Value}{l:List ByteArray}(h:TextsA w B v l):∃ao cap,v=.slice ao l.length cap∧∀j (hj:j<l.length),∃b off,ao=some ⟨b,off,none⟩∧b<B∧w.cell? ⟨b,off+j,none⟩=some (.string l[j]):=by
 obtain⟨ao,cap,hv,-,hj⟩:=h.row.form
 refine⟨ao,cap,by rw[hv,textsV_length],fun j h=>?_⟩
 obtain⟨b,off,h1,h2,h3⟩:=hj j (by simpa using h)
 exact⟨b,off,h1,h2,by rw[h3];simp[textsV]⟩
def EdgesA(w:World)(B:Nat)(v:Value)(E:List (List ByteArray)):Prop:=
 ∃vs:List Value,vs.length=E.length∧RowA w B v vs∧∀j (h:j<E.length) (h':j<vs.length),TextsA w B vs[j] E[j]
theorem EdgesA.stay{w w':World}{B:Nat}{v:Value}{E:List (List ByteArray)}(h:EdgesA w B v E)(hs:CellsStay w w'):EdgesA w' B v E:=by
 obtain⟨vs,h1,h2,h3⟩:=h
 exact⟨vs,h1,h2.stay hs,fun j h h'=>(h3 j h h').stay hs⟩
theorem EdgesA.mono{w:World}{B B':Nat}{v:Value}{E:List (List ByteArray)}(h:EdgesA w B v E)(hB:B≤B'):EdgesA w B' v E:=by
 obtain⟨vs,h1,h2,h3⟩:=h
 exact⟨vs,h1,h2.mono hB,fun j h h'=>(h3 j h h').mono hB⟩
theorem EdgesA.form{w:World}{B:Nat}{v:Value}{E:List (List ByteArray)}(h:EdgesA w B v E):∃ao cap,v=.slice ao E.length cap∧∀j (hj:j<E.length),∃b off u,ao=some ⟨b,off,none⟩∧b<B∧w.cell? ⟨b,off+j,none⟩=some u∧TextsA w B u E[j]:=by
 obtain⟨vs,h1,h2,h3⟩:=h
 obtain⟨ao,cap,hv,-,hj⟩:=h2.form
 refine⟨ao,cap,by rw[hv,h1],fun j h=>?_⟩
 obtain⟨b,off,h4,h5,h6⟩:=hj j (by omega)
 exact⟨b,off,_,h4,h5,h6,h3 j h (by omega)⟩
structure OW(e:TypeId)(W:World)(B:Nat)(v:Value)(L:List Value)(W1:World):Prop where
 below:Below B W W1
 own:W1.ownsRow B e 1 v L.length L
theorem OW.start(e:TypeId)(W:World)(B:Nat):OW e W B (.slice none 0 0) [] W:=⟨Below.refl _ _,World.ownsRow_nil _ _ _ _⟩
theorem OW.step{e:TypeId}{W W1 w':World}{B:Nat}{v v':Value}{L:List Value}(h:OW e W B v L W1)(hB:B≤W1.heap.size)(o:Obj)(x:Value)
 (h1:w'.ownsRow B e 1 v' (L.length+1) (L++[x]))(h2:(W1.alloc o).grownBy w' v.ownBlock):OW e W B v' (L++[x]) w':=by
 refine⟨(h.below.alloc hB _).grown h2 (by rw[World.size_alloc];omega) (fun k hk=>(h.own.lt k hk).1),?_⟩
 rw[List.length_append]
 exact h1
theorem OW.row{e:TypeId}{W W1:World}{B:Nat}{v:Value}{L:List Value}(h:OW e W B v L W1):RowA W1 W1.heap.size v L:=own_row h.own
theorem OW.form{e:TypeId}{W W1:World}{B:Nat}{v:Value}{L:List Value}(h:OW e W B v L W1):∃ao cap,v=.slice ao L.length cap:=by
 obtain⟨ao,cap,hv,_⟩:=h.row.form
 exact⟨ao,cap,hv⟩
theorem news_one(w:World)(x:Value)(t:TypeId):∀j u,[x][j]? = some u→(w.alloc (.cells #[x] t)).cell? ((⟨w.heap.size,0,none⟩:Addr).add j)=some u:=by
 intro j u hu
 match j,hu with
 |0,hu=>
  have hadd:(⟨w.heap.size,0,none⟩:Addr).add 0=⟨w.heap.size,0,none⟩:=rfl
  rw[hadd,World.cell?_alloc_new]
  simpa using hu
 |j+1,hu=>simp at hu
end Go.Proofs.YtcaeipdgbaligaaGreatDoor.hyp
set_option linter.unusedSimpArgs false
set_option linter.unusedVariables false
namespace Go.Proofs.YtcaeipdgbaligaaGreatDoor.tab
instance decText:DecidableEq ByteArray:=fun a b=>decidable_of_iff (a.data.toList=b.data.toList) ⟨fun h=>by
 cases a;cases b
 simp only[ByteArray.mk.injEq]
 exact Array.toList_inj.1 h,fun h=>by rw[h]⟩
instance beqText:BEq ByteArray:=⟨fun a b=>decide (a=b)⟩
instance lawText:LawfulBEq ByteArray where
 eq_of_beq h:=of_decide_eq_true h
 rfl:=decide_eq_true rfl
end Go.Proofs.YtcaeipdgbaligaaGreatDoor.tab
set_option linter.unusedSimpArgs false
set_option linter.unusedVariables false
set_option maxRecDepth 100000
set_option maxHeartbeats 2000000
namespace Go.Proofs.YtcaeipdgbaligaaGreatDoor.tab
open Go.ChangeShapes Go.WideShapes Go.ChangeAt Go.RowKit kit hyp
theorem text_eq(a b:ByteArray):(a.toList==b.toList)=decide (a=b):=by
 apply Bool.eq_iff_iff.2
 rw[decide_eq_true_eq,beq_iff_eq,Go.ByteArray.toList_eq,Go.ByteArray.toList_eq]
 constructor
 ·intro h
  cases a;cases b
  congr
  exact Array.toList_inj.1 h
 ·intro h;rw[h]
def idxI(ns:List ByteArray)(s:ByteArray):Int:=if s∈ns then((ns.idxOf s:Nat):Int) else -1
theorem index_any(w:World)(ao:Option Addr)(cap:Nat)(ns:List ByteArray)(s:ByteArray)(hn:ns.length≤1048576)
 (hc:∀j (hj:j<ns.length),∃b off,ao=some ⟨b,off,none⟩∧b<w.heap.size∧w.cell? ⟨b,off+j,none⟩=some (.string ns[j])):
 Calls Tryz.prog 51 #[.slice ao ns.length cap,.string s] w fun e w'=>e=.returned (.int .i64 (idxI ns s))∧w'=w:=by
 replace hc:=Hd hc
 go_enter Tryz.func51,Tryz.ntmps51
 go_wp2
 go_loop [8] (fun i=>∃k:Nat,k≤ns.length∧i=.int .i64 (k:Int)∧Hid (∀j (hj:j<ns.length),j<k→ns[j]≠s)) (fun i=>ns.length-(intOf i).toNat)
 case atStart=>exact⟨0,by omega,rfl,Hd (fun j _ h=>by omega)⟩
 case round =>
  obtain⟨k,hk,rfl,hno⟩:=hrel
  by_cases hlt:k<ns.length
  ·have hki:(k:Int)<(ns.length:Int):=by omega
   obtain⟨b,off,rfl,-,hck⟩:=hc.out k hlt
   have hxe:=text_eq s ns[k]
   by_cases he:s=ns[k]
   ·have hr:idxI ns s=(k:Int):=by
     unfold idxI
     rw[if_pos (by rw[he];exact List.getElem_mem hlt)]
     have h1:ns.idxOf s=k:=by
      have hmem:s∈ns:=by rw[he];exact List.getElem_mem hlt
      have h2:=List.idxOf_lt_length_of_mem hmem
      have h3:=List.getElem_idxOf h2
      have h4:¬ns.idxOf s<k:=fun h=>hno.out _ h2 h h3
      have h5:ns.idxOf s≤k:=by
       apply Classical.byContradiction
       intro h6
       have h7:k<ns.findIdx (·==s):=by show k<ns.idxOf s;omega
       have h8:=List.not_of_lt_findIdx h7
       simp[←he]at h8
      omega
     rw[h1]
    rw[decide_eq_true he]at hxe
    replace hr:=Hd hr
    replace he:=Hd he
    generalize ns[k]=x at *
    go_wp2
    go_ret
    exact⟨ret_int hr.out.symm,rfl⟩
   ·rw[decide_eq_false he]at hxe
    have hno2:Hid (∀j (hj:j<ns.length),j<k+1→ns[j]≠s):=Hd fun j hj h=>by
     by_cases hjk:j=k
     ·subst hjk;exact fun e=>he e.symm
     ·exact hno.out j hj (by omega)
    have hk1:=Hd (show k+1≤ns.length from hlt)
    clear he hno
    generalize ns[k]=x at *
    go_wp2
    go_round
    case rel=>exact⟨k+1,hk1.out,by go_num,hno2⟩
    case measure=>have:=hk1.out;simp[intOf];omega
  ·have hki:¬(k:Int)<(ns.length:Int):=by omega
   obtain rfl:k=ns.length:=by omega
   have hr:idxI ns s=-1:=by
    unfold idxI
    rw[if_neg]
    intro hmem
    obtain⟨j,hj,he⟩:=List.getElem_of_mem hmem
    exact hno.out j hj hj he
   replace hr:=Hd hr
   go_wp2
   go_ret
   exact⟨ret_int hr.out.symm,rfl⟩
theorem rindex_any(w:World)(ao:Option Addr)(cap:Nat)(ns:List ByteArray)(s:ByteArray)(hn:ns.length≤1048576)
 (hc:∀j (hj:j<ns.length),∃b off,ao=some ⟨b,off,none⟩∧b<w.heap.size∧w.cell? ⟨b,off+j,none⟩=some (.string ns[j])):
 Calls Tryz.prog 49 #[.slice ao ns.length cap,.string s] w fun e w'=>e=.returned (.int .i64 (idxI ns s))∧w'=w:=by
 replace hc:=Hd hc
 go_enter Tryz.func49,Tryz.ntmps49
 go_wp2
 go_loop [5] (fun i=>∃k:Nat,k≤ns.length∧i=.int .i64 (k:Int)∧Hid (∀j (hj:j<ns.length),j<k→ns[j]≠s)) (fun i=>ns.length-(intOf i).toNat)
 case atStart=>exact⟨0,by omega,rfl,Hd (fun j _ h=>by omega)⟩
 case round =>
  obtain⟨k,hk,rfl,hno⟩:=hrel
  by_cases hlt:k<ns.length
  ·have hki:(k:Int)<(ns.length:Int):=by omega
   obtain⟨b,off,rfl,-,hck⟩:=hc.out k hlt
   have hxe:=text_eq ns[k] s
   by_cases he:s=ns[k]
   ·have hr:idxI ns s=(k:Int):=by
     unfold idxI
     rw[if_pos (by rw[he];exact List.getElem_mem hlt)]
     have h1:ns.idxOf s=k:=by
      have hmem:s∈ns:=by rw[he];exact List.getElem_mem hlt
      have h2:=List.idxOf_lt_length_of_mem hmem
      have h3:=List.getElem_idxOf h2
      have h4:¬ns.idxOf s<k:=fun h=>hno.out _ h2 h h3
      have h5:ns.idxOf s≤k:=by
       apply Classical.byContradiction
       intro h6
       have h7:k<ns.findIdx (·==s):=by show k<ns.idxOf s;omega
       have h8:=List.not_of_lt_findIdx h7
       simp[←he]at h8
      omega
     rw[h1]
    rw[decide_eq_true he.symm]at hxe
    replace hr:=Hd hr
    replace he:=Hd he
    generalize ns[k]=x at *
    go_wp2
    go_ret
    exact⟨ret_int hr.out.symm,rfl⟩
   ·rw[decide_eq_false (fun e=>he e.symm)]at hxe
    have hno2:Hid (∀j (hj:j<ns.length),j<k+1→ns[j]≠s):=Hd fun j hj h=>by
     by_cases hjk:j=k
     ·subst hjk;exact fun e=>he e.symm
     ·exact hno.out j hj (by omega)
    have hk1:=Hd (show k+1≤ns.length from hlt)
    clear he hno
    generalize ns[k]=x at *
    go_wp2
    go_round
    case rel=>exact⟨k+1,hk1.out,by go_num,hno2⟩
    case measure=>have:=hk1.out;simp[intOf];omega
  ·have hki:¬(k:Int)<(ns.length:Int):=by omega
   obtain rfl:k=ns.length:=by omega
   have hr:idxI ns s=-1:=by
    unfold idxI
    rw[if_neg]
    intro hmem
    obtain⟨j,hj,he⟩:=List.getElem_of_mem hmem
    exact hno.out j hj hj he
   replace hr:=Hd hr
   go_wp2
   go_ret
   exact⟨ret_int hr.out.symm,rfl⟩
theorem idxI_neg(ns:List ByteArray)(s:ByteArray):decide (idxI ns s<0)=!decide (s∈ns):=by
 unfold idxI
 by_cases h:s∈ns
 ·rw[if_pos h,decide_eq_true h,decide_eq_false (by omega)];rfl
 ·rw[if_neg h,decide_eq_false h];rfl
end Go.Proofs.YtcaeipdgbaligaaGreatDoor.tab
