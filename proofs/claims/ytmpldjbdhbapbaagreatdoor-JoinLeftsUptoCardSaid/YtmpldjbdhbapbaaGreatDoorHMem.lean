/- Slices in memory that hold given values; what of memory stays where maps alone turn. -/
import Derived.Test.YtmpldjbdhbapbaaGreatDoorKit
import Derived.RangeFuncOwn
import Derived.Laws.AppendOwn
set_option linter.unusedSimpArgs false
set_option linter.unusedVariables false
namespace Go.Proofs.YtmpldjbdhbapbaaGreatDoor.hyp
open Go.ChangeShapes Go.WideShapes Go.ChangeAt Go.RowKit kit
def RowA(w:World)(B:Nat)(v:Value)(L:List Value):Prop:=
 (∃ao cap,v=.slice ao 0 cap∧L=[])∨∃b off cap,v=.slice (some ⟨b,off,none⟩) L.length cap∧0<L.length∧L.length≤cap∧b<B∧∀j (h:j<L.length),w.cell? ⟨b,off+j,none⟩=some L[j]
theorem cell_heap{w w':World}{k i:Nat}(h:w'.heap[k]? = w.heap[k]?):w'.cell? ⟨k,i,none⟩=w.cell? ⟨k,i,none⟩:=by
 unfold World.cell?
 simp only[h]
def CellsStay(w w':World):Prop:=∀(k:Nat) (o:Obj),w.heap[k]? = some o→o.isCells=true→w'.heap[k]? = w.heap[k]?
theorem CellsStay.cell{w w':World}(h:CellsStay w w'){k i:Nat}{v:Value}(hc:w.cell? ⟨k,i,none⟩=some v):w'.cell? ⟨k,i,none⟩=some v:=by
 obtain⟨o,ho,hi⟩:=cells_of_cell hc
 exact(cell_heap (h k o ho hi)).trans hc
theorem CellsStay.blk{w w':World}(h:CellsStay w w'){b:Nat}{cs:Array Value}{t:TypeId}(hb:Blk w b cs t):Blk w' b cs t:=(h b _ hb rfl).trans hb
theorem CellsStay.refl(w:World):CellsStay w w:=fun _ _ _ _=>rfl
theorem CellsStay.trans{a b c:World}(h:CellsStay a b)(k:CellsStay b c):CellsStay a c:=fun i o ho hi=>(k i o ((h i o ho hi).trans ho) hi).trans (h i o ho hi)
theorem stay_of_below{w w':World}(h:Below w.heap.size w w'):CellsStay w w':=fun k o ho _=>h.block k (Array.getElem?_eq_some_iff.1 ho).1
theorem _root_.Go.Proofs.YtmpldjbdhbapbaaGreatDoor.sB{w w':World}(h:Below w.heap.size w w'){k i:Nat}{v:Value}(hc:w.cell? ⟨k,i,none⟩=some v):w'.cell? ⟨k,i,none⟩=some v:=(stay_of_below h).cell hc
theorem RowA.stay{w w':World}{B:Nat}{v:Value}{L:List Value}(h:RowA w B v L)(hs:CellsStay w w'):RowA w' B v L:=by
 rcases h with h|⟨b,off,cap,hv,h0,hc,hB,hj⟩
 ·exact .inl h
 ·exact .inr ⟨b,off,cap,hv,h0,hc,hB,fun j h=>hs.cell (hj j h)⟩
theorem RowA.mono{w:World}{B B':Nat}{v:Value}{L:List Value}(h:RowA w B v L)(hB:B≤B'):RowA w B' v L:=by
 rcases h with h|⟨b,off,cap,hv,h0,hc,hb,hj⟩
 ·exact .inl h
 ·exact .inr ⟨b,off,cap,hv,h0,hc,by omega,hj⟩
theorem RowA.form{w:World}{B:Nat}{v:Value}{L:List Value}(h:RowA w B v L):∃ao cap,v=.slice ao L.length cap∧True∧∀j (hj:j<L.length),∃b off,ao=some ⟨b,off,none⟩∧b<B∧w.cell? ⟨b,off+j,none⟩=some L[j]:=by
 rcases h with⟨ao,cap,rfl,rfl⟩|⟨b,off,cap,rfl,h0,hc,hb,hj⟩
 ·exact⟨ao,cap,rfl,trivial,fun j hj=>by simp at hj⟩
 ·refine⟨_,cap,rfl,trivial,fun j h=>⟨b,off,rfl,hb,hj j h⟩⟩
theorem own_row{w:World}{B:Nat}{e:TypeId}{v:Value}{L:List Value}(h:w.ownsRow B e 1 v L.length L):RowA w w.heap.size v L:=by
 rcases h.2 with⟨hv,hn⟩|⟨g,cap,cur,hv,hg,hh,hc,_⟩
 ·exact .inl ⟨none,0,by rw[hv],List.eq_nil_of_length_eq_zero hn⟩
 ·by_cases h0:L=[]
  ·subst h0;exact .inl ⟨_,cap,hv,rfl⟩
  ·have hpos:=List.length_pos_iff.2 h0
   subst hv
   refine .inr ⟨g,0,cap,rfl,hpos,hc,(Array.getElem?_eq_some_iff.1 hh).1,fun j hj=>?_⟩
   rw[Nat.zero_add,h.cellAt j (by omega)]
   rw[List.getElem?_eq_getElem hj]
theorem RowA.news{w:World}{b off:Nat}{L:List Value}(hc:∀j (h:j<L.length),w.cell? ⟨b,off+j,none⟩=some L[j]):∀j u,L[j]? = some u→w.cell? ((⟨b,off,none⟩:Addr).add j)=some u:=by
 intro j u hu
 obtain⟨hj,rfl⟩:=List.getElem?_eq_some_iff.1 hu
 have hadd:(⟨b,off,none⟩:Addr).add j=⟨b,off+j,none⟩:=by unfold Addr.add;split<;>simp_all
 rw[hadd]
 exact hc j hj
def textsV(l:List ByteArray):List Value:=l.map .string
def masksV(l:List Nat):List Value:=l.map fun(s:Nat)=>.int .u16 (s:Int)
def numsV(l:List Int):List Value:=l.map (.int .i64)
@[simp] theorem textsV_length(l:List ByteArray):(textsV l).length=l.length:=by simp[textsV]
@[simp] theorem masksV_length(l:List Nat):(masksV l).length=l.length:=by simp[masksV]
@[simp] theorem numsV_length(l:List Int):(numsV l).length=l.length:=by simp[numsV]
structure TextsA(w:World)(B:Nat)(v:Value)(l:List ByteArray):Prop where
 row:RowA w B v (textsV l)
 size:∀s∈l,s.size≤maxLen
theorem TextsA.stay{w w':World}{B:Nat}{v:Value}{l:List ByteArray}(h:TextsA w B v l)(hs:CellsStay w w'):TextsA w' B v l:=⟨h.row.stay hs,h.size⟩
theorem TextsA.mono{w:World}{B B':Nat}{v:Value}{l:List ByteArray}(h:TextsA w B v l)(hB:B≤B'):TextsA w B' v l:=⟨h.row.mono hB,h.size⟩
theorem TextsA.form{w:World}{B:Nat}{v:Value}{l:List ByteArray}(h:TextsA w B v l):∃ao cap,v=.slice ao l.length cap∧∀j (hj:j<l.length),∃b off,ao=some ⟨b,off,none⟩∧b<B∧w.cell? ⟨b,off+j,none⟩=some (.string l[j]):=by
 obtain⟨ao,cap,hv,-,hj⟩:=h.row.form
 refine⟨ao,cap,by rw[hv,textsV_length],fun j h=>?_⟩
 obtain⟨b,off,h1,h2,h3⟩:=hj j (by simpa using h)
 exact⟨b,off,h1,h2,by rw[h3];simp[textsV]⟩
def EdgesA(w:World)(B:Nat)(v:Value)(E:List (List ByteArray)):Prop:=
 ∃vs:List Value,vs.length=E.length∧RowA w B v vs∧∀j (h:j<E.length) (h':j<vs.length),TextsA w B vs[j] E[j]
theorem EdgesA.stay{w w':World}{B:Nat}{v:Value}{E:List (List ByteArray)}(h:EdgesA w B v E)(hs:CellsStay w w'):EdgesA w' B v E:=by
 obtain⟨vs,h1,h2,h3⟩:=h
 exact⟨vs,h1,h2.stay hs,fun j h h'=>(h3 j h h').stay hs⟩
theorem EdgesA.mono{w:World}{B B':Nat}{v:Value}{E:List (List ByteArray)}(h:EdgesA w B v E)(hB:B≤B'):EdgesA w B' v E:=by
 obtain⟨vs,h1,h2,h3⟩:=h
 exact⟨vs,h1,h2.mono hB,fun j h h'=>(h3 j h h').mono hB⟩
theorem EdgesA.form{w:World}{B:Nat}{v:Value}{E:List (List ByteArray)}(h:EdgesA w B v E):∃ao cap,v=.slice ao E.length cap∧∀j (hj:j<E.length),∃b off u,ao=some ⟨b,off,none⟩∧b<B∧w.cell? ⟨b,off+j,none⟩=some u∧TextsA w B u E[j]:=by
 obtain⟨vs,h1,h2,h3⟩:=h
 obtain⟨ao,cap,hv,-,hj⟩:=h2.form
 refine⟨ao,cap,by rw[hv,h1],fun j h=>?_⟩
 obtain⟨b,off,h4,h5,h6⟩:=hj j (by omega)
 exact⟨b,off,_,h4,h5,h6,h3 j h (by omega)⟩
structure OW(e:TypeId)(W:World)(B:Nat)(v:Value)(L:List Value)(W1:World):Prop where
 below:Below B W W1
 own:W1.ownsRow B e 1 v L.length L
theorem OW.start(e:TypeId)(W:World)(B:Nat):OW e W B (.slice none 0 0) [] W:=⟨Below.refl _ _,World.ownsRow_nil _ _ _ _⟩
theorem OW.step{e:TypeId}{W W1 w':World}{B:Nat}{v v':Value}{L:List Value}(h:OW e W B v L W1)(hB:B≤W1.heap.size)(o:Obj)(x:Value)
 (h1:w'.ownsRow B e 1 v' (L.length+1) (L++[x]))(h2:(W1.alloc o).grownBy w' v.ownBlock):OW e W B v' (L++[x]) w':=by
 refine⟨(h.below.alloc hB _).grown h2 (by rw[World.size_alloc];omega) (fun k hk=>(h.own.lt k hk).1),?_⟩
 rw[List.length_append]
 exact h1
theorem OW.row{e:TypeId}{W W1:World}{B:Nat}{v:Value}{L:List Value}(h:OW e W B v L W1):RowA W1 W1.heap.size v L:=own_row h.own
theorem OW.form{e:TypeId}{W W1:World}{B:Nat}{v:Value}{L:List Value}(h:OW e W B v L W1):∃ao cap,v=.slice ao L.length cap:=by
 obtain⟨ao,cap,hv,_⟩:=h.row.form
 exact⟨ao,cap,hv⟩
theorem news_one(w:World)(x:Value)(t:TypeId):∀j u,[x][j]? = some u→(w.alloc (.cells #[x] t)).cell? ((⟨w.heap.size,0,none⟩:Addr).add j)=some u:=by
 intro j u hu
 match j,hu with
 |0,hu=>
  have hadd:(⟨w.heap.size,0,none⟩:Addr).add 0=⟨w.heap.size,0,none⟩:=rfl
  rw[hadd,World.cell?_alloc_new]
  simpa using hu
 |j+1,hu=>simp at hu
end Go.Proofs.YtmpldjbdhbapbaaGreatDoor.hyp
