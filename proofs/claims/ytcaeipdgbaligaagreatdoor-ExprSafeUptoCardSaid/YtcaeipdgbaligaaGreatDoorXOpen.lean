/- Texts VLayK, VCopyK, RowsMem, RowsOpen, XMem, XOpen, one behind the other. -/
import Derived.Test.YtcaeipdgbaligaaGreatDoorVMade
import Derived.Test.YtcaeipdgbaligaaGreatDoorTabIdx
set_option linter.unusedVariables false
namespace Go.Proofs.YtcaeipdgbaligaaGreatDoor.val
open Go.ChangeShapes Go.WideShapes Go.ChangeAt Go.RowKit kit
theorem LA.elems{w:World}{N:Nat}{s:Value}{l:List V}(h:LA w N s l):∀ao n cap,s=.slice ao n cap→l.length≤N∧∀j (hj:j<l.length),EA w N ao (6 * j) l[j]:=by
 cases h with
 |mk ao cap l hl h=>
  intro ao' n' cap' e
  injection e with e1 e2 e3
  subst e1
  exact⟨hl,h⟩
end Go.Proofs.YtcaeipdgbaligaaGreatDoor.val
set_option linter.unusedSimpArgs false
set_option linter.unusedVariables false
namespace Go.Proofs.YtcaeipdgbaligaaGreatDoor.val
open Go.ChangeShapes Go.WideShapes Go.ChangeAt Go.RowKit kit dec
def Fr(n:Nat)(w:World):Nat→Prop:=fun b=>n≤b∧b<w.heap.size
theorem Fr.lt{n:Nat}{w:World}:∀b,Fr n w b→b<w.heap.size:=fun _ h=>h.2
theorem LF.after{w w':World}{N n:Nat}{v:Value}{l:List V}(h:LF w N (Fr n w) v l)(hb:Below w.heap.size w w'):LF w' N (Fr n w') v l:=
 (h.stay fun b hS hlt=>hb.block b hlt).mono fun b hS=>⟨hS.1,Nat.lt_of_lt_of_le hS.2 hb.size⟩
theorem la_at{w:World}{N:Nat}{ao:Option Addr}{cap:Nat}{l:List V}(h:LA w N (.slice ao l.length cap) l)(j:Nat)(hj:j<l.length):
 ∃b off k bo n t x l1 aoE capE,ao=some ⟨b,off,none⟩∧l[j]=.mk k bo n t x l1∧Row6 w b (off+j * 6) k bo n t x (.slice aoE l1.length capE)∧okV N (.mk k bo n t x l1)∧LA w N (.slice aoE l1.length capE) l1:=by
 have hel:=(h.elems _ _ _ rfl).2 j hj
 rw[Nat.mul_comm 6 j]at hel
 generalize l[j]=v at hel
 cases hel with
 |mk b off o k1 bo n t x l1 s hr hk1 hn ht hx hsl=>
  obtain⟨aoE,capE,rfl⟩:=hsl.form6
  exact⟨b,off,k1,bo,n,t,x,l1,aoE,capE,rfl,rfl,hr,⟨hk1,hn,ht,hx⟩,hsl⟩
theorem news_six(w:World)(v:V)(s:Value)(t:TypeId):∀j u,(rowL [(v,s)])[j]? = some u→(w.alloc (.cells (six v s).toArray t)).cell? ((⟨w.heap.size,0,none⟩:Addr).add j)=some u:=by
 intro j u hu
 rw[Go.WideShapes.add_plain,Nat.zero_add]
 refine(Blk.new w _ t).cell j ?_
 simpa[rowL]using hu
theorem one_child{w:World}{N:Nat}{S:Nat→Prop}{v:V}{s:Value}(h:LF w N S s (kids v)):∀j (hj:j<[(v,s)].length),LF w N (fun b=>j=0∧S b) [(v,s)][j].2 (kids [(v,s)][j].1):=by
 intro j hj
 obtain rfl:j=0:=by simpa using hj
 exact h.mono fun b hb=>⟨rfl,hb⟩
theorem one_ok{N:Nat}{v:V}{s:Value}(h:okV N v):∀p∈[(v,s)],okV N p.1:=by
 intro p hp
 obtain rfl:=List.mem_singleton.1 hp
 exact h
end Go.Proofs.YtcaeipdgbaligaaGreatDoor.val
set_option linter.unusedSimpArgs false
set_option linter.unusedVariables false
namespace Go.Proofs.YtcaeipdgbaligaaGreatDoor.tab
open Go.ChangeShapes Go.WideShapes Go.ChangeAt Go.RowKit kit dec val
open hyp (RowA TextsA CellsStay stay_of_below textsV own_row)
def RowsA(w:World)(N:Nat)(v:Value)(rs:List (List V)):Prop:=∃vs:List Value,vs.length=rs.length∧RowA w w.heap.size v vs∧∀j (h:j<vs.length) (h':j<rs.length),LA w N vs[j] rs[j]
theorem RowsA.stay{w w':World}{N:Nat}{v:Value}{rs:List (List V)}(h:RowsA w N v rs)(hb:Below w.heap.size w w'):RowsA w' N v rs:=by
 obtain⟨vs,h1,h2,h3⟩:=h
 exact⟨vs,h1,(h2.stay (stay_of_below hb)).mono hb.size,fun j hj hj'=>(h3 j hj hj').stay hb⟩
theorem RowsA.form{w:World}{N:Nat}{v:Value}{rs:List (List V)}(h:RowsA w N v rs):∃ao cap,v=.slice ao rs.length cap∧rs.length≤cap∧∀j (hj:j<rs.length),∃b off a c,ao=some ⟨b,off,none⟩∧b<w.heap.size∧w.cell? ⟨b,off+j,none⟩=some (.slice a rs[j].length c)∧LA w N (.slice a rs[j].length c) rs[j]:=by
 obtain⟨vs,h1,h2,h3⟩:=h
 rcases h2 with⟨ao,cap,rfl,rfl⟩|⟨b,off,cap,rfl,h0,hc,hb,hj⟩
 ·have:rs=[]:=List.eq_nil_of_length_eq_zero (by simpa using h1.symm)
  subst this
  exact⟨ao,cap,rfl,Nat.zero_le _,fun j hj=>by simp at hj⟩
 ·refine⟨some ⟨b,off,none⟩,cap,by rw[h1],by omega,fun j hjl=>?_⟩
  have h4:=h3 j (by omega) hjl
  obtain⟨a,c,h5⟩:=h4.form6
  refine⟨b,off,a,c,rfl,hb,?_,by rw[←h5];exact h4⟩
  rw[hj j (by omega),h5]
theorem TextsA.below{w w':World}{v:Value}{l:List ByteArray}(h:TextsA w w.heap.size v l)(hb:Below w.heap.size w w'):TextsA w' w'.heap.size v l:=(h.stay (stay_of_below hb)).mono hb.size
def MR(w:World)(N:Nat)(S:Nat→Prop)(v:Value)(rs:List (List V)):Prop:=
 ∃(vs:List Value) (P:Nat→Nat→Prop),vs.length=rs.length∧w.ownsRow 0 24 1 v vs.length vs∧(∀g,v.ownBlock=some g→S g)∧(∀g,v.ownBlock=some g→∀j,¬P j g)∧(∀j b,P j b→S b)∧(∀i j b,P i b→P j b→i=j) ∧
  ∀j (hj:j<vs.length) (hj':j<rs.length),LF w N (P j) vs[j] rs[j]
theorem MR.nil(w:World)(N:Nat)(S:Nat→Prop):MR w N S (.slice none 0 0) []:=by
 refine⟨[],fun _ _=>False,rfl,World.ownsRow_nil _ _ _ _,?_,?_,?_,?_,?_⟩
 ·intro g h;cases h
 ·intro g h;cases h
 ·intro j b h;exact h.elim
 ·intro i j b h;exact h.elim
 ·intro j hj;simp at hj
theorem MR.stay{w w':World}{N:Nat}{S:Nat→Prop}{v:Value}{rs:List (List V)}(h:MR w N S v rs)(hb:∀b,S b→b<w.heap.size→w'.heap[b]? = w.heap[b]?):MR w' N S v rs:=by
 obtain⟨vs,P,h1,h2,h3,h4,h5,h6,h7⟩:=h
 exact⟨vs,P,h1,own_stay h2 fun g hg=>hb g (h3 g hg) (h2.lt g hg).2,h3,h4,h5,h6,fun j hj hj'=>(h7 j hj hj').stay fun b hP hlt=>hb b (h5 j b hP) hlt⟩
theorem MR.mono{w:World}{N:Nat}{S S':Nat→Prop}{v:Value}{rs:List (List V)}(h:MR w N S v rs)(hs:∀b,S b→S' b):MR w N S' v rs:=by
 obtain⟨vs,P,h1,h2,h3,h4,h5,h6,h7⟩:=h
 exact⟨vs,P,h1,h2,fun g hg=>hs g (h3 g hg),h4,fun j b hP=>hs b (h5 j b hP),h6,h7⟩
theorem MR.after{w w':World}{N n:Nat}{v:Value}{rs:List (List V)}(h:MR w N (Fr n w) v rs)(hb:Below w.heap.size w w'):MR w' N (Fr n w') v rs:=
 (h.stay fun b hS hlt=>hb.block b hlt).mono fun b hS=>⟨hS.1,Nat.lt_of_lt_of_le hS.2 hb.size⟩
theorem MR.form{w:World}{N:Nat}{S:Nat→Prop}{v:Value}{rs:List (List V)}(h:MR w N S v rs):∃ao cap,v=.slice ao rs.length cap:=by
 obtain⟨vs,P,h1,h2,-⟩:=h
 rcases h2.2 with⟨rfl,hn⟩|⟨g,cap,cur,rfl,_⟩
 ·exact⟨none,0,by rw[←h1,hn]⟩
 ·exact⟨_,cap,by rw[h1]⟩
end Go.Proofs.YtcaeipdgbaligaaGreatDoor.tab
set_option linter.unusedSimpArgs false
set_option linter.unusedVariables false
namespace Go.Proofs.YtcaeipdgbaligaaGreatDoor.tab
open Go.ChangeShapes Go.WideShapes Go.ChangeAt Go.RowKit kit val
open hyp (RowA TextsA textsV textsV_length)
set_option maxRecDepth 100000
def wtR:List (List V)→Nat
 |[]=>0
 |r::rs=>1+wtL r+wtR rs
theorem wtR_le{H:Type}:∀(l:List (List V)) (ds:List (DataW H)) (hlen:ds.length=l.length) (h:∀j (h1:j<l.length) (h2:j<ds.length),1+wtL l[j]≤Rows.uptoBulk ds[j]),wtR l≤Rows.uptoBulkAll ds
 |[],[],_,_=>by simp[wtR]
 |v::l,d::ds,hlen,h=>by
  rw[wtR,Rows.uptoBulkAll]
  have h0:=h 0 (by simp) (by simp)
  have:=wtR_le l ds (by simpa using hlen) (fun j h1 h2=>h (j+1) (by simpa using h1) (by simpa using h2))
  simp at h0
  omega
theorem wtR_len(l:List (List V)):l.length≤wtR l:=by
 induction l with
 |nil=>simp
 |cons v r ih=>rw[wtR,List.length_cons];omega
theorem choose_list{α:Type}{n:Nat}{P:Nat→α→Prop}(h:∀j,j<n→∃a,P j a):∃l:List α,l.length=n∧∀j (hj:j<l.length),P j l[j]:=by
 refine⟨(List.finRange n).map fun j=>(h j.1 j.2).choose,by simp,fun j hj=>?_⟩
 have hj':j<n:=by simpa using hj
 simp only[List.getElem_map,List.getElem_finRange]
 exact(h j hj').choose_spec
theorem bulk_pos{H:Type}:∀d:DataW H,1≤Rows.uptoBulk d
 |.lit l=>by cases l<;>simp[Rows.uptoBulk]
 |.nil=>by simp[Rows.uptoBulk]
 |.ptr d=>by simp[Rows.uptoBulk]
 |.slice e s=>by simp[Rows.uptoBulk]
 |.agg p=>by simp[Rows.uptoBulk]
 |.iface _ d=>by simp[Rows.uptoBulk]
 |.map e=>by simp[Rows.uptoBulk]
 |.held _=>by simp[Rows.uptoBulk]
theorem bulk_mem{H:Type}:∀(ds:List (DataW H)) (d:DataW H),d∈ds→Rows.uptoBulk d≤Rows.uptoBulkAll ds
 |[],d,h=>by cases h
 |e::ds,d,h=>by
  rw[Rows.uptoBulkAll]
  rcases List.mem_cons.1 h with rfl|h
  ·omega
  ·have:=bulk_mem ds d h;omega
theorem bulk_len{H:Type}:∀ds:List (DataW H),ds.length≤Rows.uptoBulkAll ds
 |[]=>by simp[Rows.uptoBulkAll]
 |e::ds=>by
  rw[Rows.uptoBulkAll,List.length_cons]
  have:=bulk_len ds
  have:=bulk_pos e
  omega
section
variable{H:Type}{enc:TypeId×Value→H}{W:World}
theorem open_slice{t e:TypeId}{m:Nat}(ht:Tryz.prog.underlying t=some (.slice e))(hC:Tryz.prog.cellsOf e=m)(hm:0<m){fuel:Nat}{cs:List Value}{x:DataW H×List MemPlace}(h:DataW.trod enc Tryz.prog W 0 (fun _=>true) true fuel t cs=some x):
 ∃ao len cap,cs=[.slice ao len cap]∧len≤cap∧len≤Rows.uptoBulk x.1∧∀j,j<len→∃b off cc y n,ao=some ⟨b,off,none⟩∧b<W.heap.size∧DataW.trod enc Tryz.prog W 0 (fun _=>true) true n e cc=some y∧Rows.uptoBulk y.1≤Rows.uptoBulk x.1∧cc.length=m∧∀i,i<m→W.cell? ⟨b,off+j * m+i,none⟩=cc[i]?:=by
 rcases DataW.trod_slice ht h with⟨rfl,rfl⟩|⟨a,len,cap,elems,rest,n,rfl,rfl,rfl,_,hl,hmx,hlen,hel,_,_⟩
 ·exact⟨none,0,0,rfl,Nat.le_refl _,Nat.zero_le _,fun j hj=>by omega⟩
 ·obtain⟨b,off,tg⟩:=a
  have hel0:elems.length≤Rows.uptoBulkAll (elems.map (·.1)):=by have:=bulk_len (elems.map (·.1));simpa using this
  refine⟨_,len,cap,rfl,hl,by simp only[Rows.uptoBulk];omega,fun j hj=>?_⟩
  have h1:=hel j hj
  rw[hC,List.getElem?_eq_getElem (by omega),Option.bind_eq_some_iff]at h1
  obtain⟨cc,h2,h3⟩:=h1
  obtain⟨_,h5,h6⟩:=World.cells?_some h2
  have htg:tg=none:=by
   have g1:=hel 0 (by omega)
   rw[hC,List.getElem?_eq_getElem (by omega),Option.bind_eq_some_iff]at g1
   obtain⟨cc0,g2,g3⟩:=g1
   obtain⟨_,g5,g6⟩:=World.cells?_some g2
   have g7:=g6 0 hm
   rw[List.getElem?_eq_getElem (by omega)]at g7
   simpa[Addr.add]using World.cell?_spot g7
  subst htg
  have hcell:∀i,i<m→W.cell? ⟨b,off+j * m+i,none⟩=cc[i]?:=fun i hi=>by
   have h8:=h6 i hi
   rw[Go.WideShapes.add_plain,Go.WideShapes.add_plain]at h8
   exact h8
  have h9:=hcell 0 hm
  rw[List.getElem?_eq_getElem (by omega)]at h9
  obtain⟨ob,ho,_⟩:=cells_of_cell h9
  refine⟨b,off,cc,elems[j],n,rfl,(Array.getElem?_eq_some_iff.1 ho).1,h3,?_,by omega,hcell⟩
  have:=bulk_mem (elems.map (·.1)) elems[j].1 (List.mem_map.2 ⟨_,List.getElem_mem _,rfl⟩)
  simp only[Rows.uptoBulk]
  omega
theorem row_of{ao:Option Addr}{cap:Nat}{L:List Value}(hl:L.length≤cap)(h:∀j (hj:j<L.length),∃b off,ao=some ⟨b,off,none⟩∧b<W.heap.size∧W.cell? ⟨b,off+j,none⟩=some L[j]):RowA W W.heap.size (.slice ao L.length cap) L:=by
 by_cases h0:L=[]
 ·subst h0
  exact .inl ⟨ao,cap,rfl,rfl⟩
 ·have hpos:=List.length_pos_iff.2 h0
  obtain⟨b,off,rfl,hb,_⟩:=h 0 hpos
  refine .inr ⟨b,off,cap,rfl,hpos,hl,hb,fun j hj=>?_⟩
  obtain⟨b',off',e,_,hc⟩:=h j hj
  cases e
  exact hc
theorem texts_of{fuel:Nat}{cs:List Value}{x:DataW H×List MemPlace}(h:DataW.trod enc Tryz.prog W 0 (fun _=>true) true fuel 23 cs=some x):∃v l,cs=[v]∧TextsA W W.heap.size v l∧l.length≤Rows.uptoBulk x.1:=by
 obtain⟨ao,len,cap,rfl,hl,hb,hel⟩:=open_slice Tryz.underlying23 (e:=9) (m:=1) (by kernel_rfl) (by decide) h
 obtain⟨l,rfl,hl2⟩:=choose_list (P:=fun j (s:ByteArray)=>s.size≤maxLen∧∃b off,ao=some ⟨b,off,none⟩∧b<W.heap.size∧W.cell? ⟨b,off+j,none⟩=some (.string s)) (fun j hj=>by
  obtain⟨b,off,cc,y,n,h1,h2,h3,-,-,h4⟩:=hel j hj
  obtain⟨s,rfl,-,hs⟩:=DataW.trod_string Tryz.underlying9 h3
  have h5:=h4 0 (by decide)
  rw[Nat.mul_one,Nat.add_zero]at h5
  exact⟨s,hs,b,off,h1,h2,h5⟩)
 refine⟨_,l,rfl,⟨?_,fun s hs=>?_⟩,hb⟩
 ·have:=row_of (W:=W) (ao:=ao) (cap:=cap) (L:=textsV l) (by rw[textsV_length];exact hl) (fun j hj=>by
   obtain⟨-,b,off,h1,h2,h3⟩:=hl2 j (by simpa using hj)
   exact⟨b,off,h1,h2,by rw[h3];simp[textsV]⟩)
  rw[textsV_length]at this
  exact this
 ·obtain⟨j,hj,rfl⟩:=List.getElem_of_mem hs
  exact(hl2 j hj).1
theorem rows_of{N:Nat}{fuel:Nat}{cs:List Value}{x:DataW H×List MemPlace}(h:DataW.trod enc Tryz.prog W 0 (fun _=>true) true fuel 119 cs=some x)(hB:Rows.uptoBulk x.1≤N):
 ∃v rs,cs=[v]∧RowsA W N v rs∧wtR rs≤Rows.uptoBulk x.1:=by
 have hC:Tryz.prog.cellsOf 24=1:=by kernel_rfl
 rcases DataW.trod_slice Tryz.underlying119 h with⟨rfl,rfl⟩|⟨a,len,cap,elems,rest,n,rfl,rfl,rfl,_,hl,hm,hlen,hel,_,_⟩
 ·exact⟨_,[],rfl,⟨[],rfl,.inl ⟨none,0,rfl,rfl⟩,fun j hj=>by simp at hj⟩,by simp[wtR]⟩
 ·obtain⟨b,off,tg⟩:=a
  have hbk:Rows.uptoBulkAll (elems.map (·.1))≤Rows.uptoBulk (DataW.slice (elems.map (·.1)) (rest.map (·.1))):=by simp only[Rows.uptoBulk];omega
  replace hB:Rows.uptoBulk (DataW.slice (elems.map (·.1)) (rest.map (·.1)))≤N:=hB
  have htg:0<len→tg=none:=fun h0=>by
   have g1:=hel 0 (by omega)
   rw[hC,List.getElem?_eq_getElem (by omega),Option.bind_eq_some_iff]at g1
   obtain⟨cc0,g2,g3⟩:=g1
   obtain⟨_,g5,g6⟩:=World.cells?_some g2
   have g7:=g6 0 (by decide)
   rw[List.getElem?_eq_getElem (by omega)]at g7
   simpa[Addr.add]using World.cell?_spot g7
  obtain⟨l,rfl,hl2⟩:=choose_list (n:=len) (P:=fun j (p:Value×List V)=>LA W N p.1 p.2∧(∀hj:j<elems.length,1+wtL p.2≤Rows.uptoBulk elems[j].1)∧∃b2 off2,some (⟨b,off,tg⟩:Addr)=some ⟨b2,off2,none⟩∧b2<W.heap.size∧W.cell? ⟨b2,off2+j,none⟩=some p.1) (fun j hj=>by
   have h1:=hel j hj
   rw[hC,List.getElem?_eq_getElem (by omega),Option.bind_eq_some_iff]at h1
   obtain⟨cc,h2,h3⟩:=h1
   obtain⟨_,h5,h6⟩:=World.cells?_some h2
   have hmem:elems[j]'(by omega)∈elems:=List.getElem_mem _
   have h8:=bulk_mem (elems.map (·.1)) (elems[j]'(by omega)).1 (List.mem_map.2 ⟨_,hmem,rfl⟩)
   obtain⟨s,r,rfl,hla,hw⟩:=la_of_trodW (N:=N) n h3 (.inr (by omega))
   have h7:=h6 0 (by decide)
   obtain rfl:=htg (by omega)
   rw[Go.WideShapes.add_plain,Go.WideShapes.add_plain,Nat.mul_one,Nat.add_zero]at h7
   obtain⟨ob,ho,_⟩:=cells_of_cell h7
   exact⟨(s,r),hla,fun _=>by show 1+wtL r≤_;omega,b,off,rfl,(Array.getElem?_eq_some_iff.1 ho).1,h7⟩)
  have hE:(l.map (·.2)).length=l.length:=by simp
  refine⟨_,l.map (·.2),rfl,⟨l.map (·.1),by simp,?_,fun j hj hj'=>?_⟩,?_⟩
  ·have:=row_of (W:=W) (ao:=some ⟨b,off,tg⟩) (cap:=cap) (L:=l.map (·.1)) (by rw[List.length_map];exact hl) (fun j hj=>by
    obtain⟨-,-,b2,off2,h1,h2,h3⟩:=hl2 j (by simpa using hj)
    exact⟨b2,off2,h1,h2,by rw[h3];simp⟩)
   rw[List.length_map]at this
   exact this
  ·simp only[List.getElem_map]
   exact(hl2 j (by simpa using hj)).1
  ·refine Nat.le_trans (wtR_le _ (elems.map (·.1)) (by rw[List.length_map,hE];omega) (fun j h1 h2=>?_)) hbk
   rw[List.getElem_map,List.getElem_map]
   exact(hl2 j (by simpa using h1)).2.1 _
end
end Go.Proofs.YtcaeipdgbaligaaGreatDoor.tab
set_option linter.unusedSimpArgs false
set_option linter.unusedVariables false
namespace Go.Proofs.YtcaeipdgbaligaaGreatDoor.ex
open Go.ChangeShapes Go.WideShapes Go.ChangeAt Go.RowKit kit val tab
open hyp (RowA TextsA textsV textsV_length)
structure HopD where
 src:ByteArray
 edge:ByteArray
 dst:ByteArray
 types:List ByteArray
 dir:Int
mutual
inductive X where
 |mk (op:Int) (text:ByteArray) (v:V) (flag:Bool) (args:List X) (plan:List P) (mt gp:Nat)
inductive P where
 |mk (op lang:Int) (var:ByteArray) (vars:List ByteArray) (rows:List (List V)) (bgp:List (V×V×V)) (spots:List (ByteArray×List ByteArray)) (hops:List HopD) (flag:Bool) (e:List X) (aggs:List AG) (sorts:List SO) (skip limit:Int) (ins:List P)
inductive AG where
 |mk (var:ByteArray) (e:X)
inductive SO where
 |mk (e:X) (down:Bool)
end
def Cl(w:World)(ao:Option Addr)(o:Nat)(v:Value):Prop:=∃b off,ao=some ⟨b,off,none⟩∧b<w.heap.size∧w.cell? ⟨b,off+o,none⟩=some v
theorem Cl.stay{w w':World}{ao:Option Addr}{o:Nat}{v:Value}(h:Cl w ao o v)(hb:Below w.heap.size w w'):Cl w' ao o v:=by
 obtain⟨b,off,e,hl,hc⟩:=h
 exact⟨b,off,e,Nat.lt_of_lt_of_le hl hb.size,(hb.cell (p:=⟨b,off+o,none⟩) hl).trans hc⟩
def BgpA(w:World)(N:Nat)(v:Value)(l:List (V×V×V)):Prop:=∃ao cap,v=.slice ao l.length cap∧l.length≤N∧∀j (hj:j<l.length),EA w N ao (18 * j) l[j].1∧EA w N ao (18 * j+6) l[j].2.1∧EA w N ao (18 * j+12) l[j].2.2
theorem BgpA.stay{w w':World}{N:Nat}{v:Value}{l:List (V×V×V)}(h:BgpA w N v l)(hb:Below w.heap.size w w'):BgpA w' N v l:=by
 obtain⟨ao,cap,e,hl,he⟩:=h
 exact⟨ao,cap,e,hl,fun j hj=>⟨(he j hj).1.stay hb,(he j hj).2.1.stay hb,(he j hj).2.2.stay hb⟩⟩
def SpotsA(w:World)(N:Nat)(v:Value)(l:List (ByteArray×List ByteArray)):Prop:=∃ao cap,v=.slice ao l.length cap∧l.length≤N∧∀j (hj:j<l.length),Cl w ao (2 * j) (.string l[j].1)∧l[j].1.size≤N∧∃s,Cl w ao (2 * j+1) s∧TextsA w w.heap.size s l[j].2∧l[j].2.length≤N
theorem SpotsA.stay{w w':World}{N:Nat}{v:Value}{l:List (ByteArray×List ByteArray)}(h:SpotsA w N v l)(hb:Below w.heap.size w w'):SpotsA w' N v l:=by
 obtain⟨ao,cap,e,hl,he⟩:=h
 refine⟨ao,cap,e,hl,fun j hj=>?_⟩
 obtain⟨h1,h2,s,h3,h4,h5⟩:=he j hj
 exact⟨h1.stay hb,h2,s,h3.stay hb,TextsA.below h4 hb,h5⟩
def HopsA(w:World)(N:Nat)(v:Value)(l:List HopD):Prop:=∃ao cap,v=.slice ao l.length cap∧l.length≤N∧∀j (hj:j<l.length),Cl w ao (5 * j) (.string l[j].src)∧Cl w ao (5 * j+1) (.string l[j].edge)∧Cl w ao (5 * j+2) (.string l[j].dst)∧l[j].src.size≤N∧l[j].edge.size≤N∧l[j].dst.size≤N ∧
 (∃s,Cl w ao (5 * j+3) s∧TextsA w w.heap.size s l[j].types∧l[j].types.length≤N)∧Cl w ao (5 * j+4) (.int .i64 l[j].dir)∧In64 l[j].dir
theorem HopsA.stay{w w':World}{N:Nat}{v:Value}{l:List HopD}(h:HopsA w N v l)(hb:Below w.heap.size w w'):HopsA w' N v l:=by
 obtain⟨ao,cap,e,hl,he⟩:=h
 refine⟨ao,cap,e,hl,fun j hj=>?_⟩
 obtain⟨h1,h2,h3,h4,h5,h6,⟨s,h7,h8,h9⟩,h10,h11⟩:=he j hj
 exact⟨h1.stay hb,h2.stay hb,h3.stay hb,h4,h5,h6,⟨s,h7.stay hb,TextsA.below h8 hb,h9⟩,h10.stay hb,h11⟩
mutual
inductive XS(w:World)(N:Nat):Value→List X→Prop
 |mk (ao:Option Addr) (cap:Nat) (l:List X) (hl:l.length≤N) (h:∀j (hj:j<l.length),XC w N ao (13 * j) l[j]):XS w N (.slice ao l.length cap) l
inductive XC(w:World)(N:Nat):Option Addr→Nat→X→Prop
 |mk (ao:Option Addr) (o:Nat) (op:Int) (text:ByteArray) (v:V) (flag:Bool) (args:List X) (plan:List P) (mt gp:Nat) (sa sp:Value) (am ag:Option Addr) (cm cg:Nat)
  (c0:Cl w ao o (.int .i64 op)) (h0:In64 op) (c1:Cl w ao (o+1) (.string text)) (h1:text.size≤N) (hv:EA w N ao (o+2) v) (c8:Cl w ao (o+8) (.bool flag))
  (c9:Cl w ao (o+9) sa) (ha:XS w N sa args) (c10:Cl w ao (o+10) sp) (hp:PS w N sp plan)
  (c11:Cl w ao (o+11) (.slice am mt cm)) (l11:mt≤N) (c12:Cl w ao (o+12) (.slice ag gp cg)) (l12:gp≤N):XC w N ao o (.mk op text v flag args plan mt gp)
inductive PS(w:World)(N:Nat):Value→List P→Prop
 |mk (ao:Option Addr) (cap:Nat) (l:List P) (hl:l.length≤N) (h:∀j (hj:j<l.length),PC w N ao (15 * j) l[j]):PS w N (.slice ao l.length cap) l
inductive PC(w:World)(N:Nat):Option Addr→Nat→P→Prop
 |mk (ao:Option Addr) (o:Nat) (op lang:Int) (var:ByteArray) (vars:List ByteArray) (rows:List (List V)) (bgp:List (V×V×V)) (spots:List (ByteArray×List ByteArray)) (hops:List HopD) (flag:Bool) (e:List X) (aggs:List AG) (sorts:List SO) (skip limit:Int) (ins:List P) (s3 s4 s5 s6 s7 s9 s10 s11 s14:Value)
  (c0:Cl w ao o (.int .i64 op)) (h0:In64 op) (c1:Cl w ao (o+1) (.int .i64 lang)) (h1:In64 lang) (c2:Cl w ao (o+2) (.string var)) (h2:var.size≤N) (c3:Cl w ao (o+3) s3) (h3:TextsA w w.heap.size s3 vars) (l3:vars.length≤N)
  (c4:Cl w ao (o+4) s4) (h4:RowsA w N s4 rows) (l4:rows.length≤N) (c5:Cl w ao (o+5) s5) (h5:BgpA w N s5 bgp) (c6:Cl w ao (o+6) s6) (h6:SpotsA w N s6 spots) (c7:Cl w ao (o+7) s7) (h7:HopsA w N s7 hops) (c8:Cl w ao (o+8) (.bool flag))
  (c9:Cl w ao (o+9) s9) (h9:XS w N s9 e) (c10:Cl w ao (o+10) s10) (h10:AS w N s10 aggs) (c11:Cl w ao (o+11) s11) (h11:SS w N s11 sorts) (c12:Cl w ao (o+12) (.int .i64 skip)) (h12:In64 skip) (c13:Cl w ao (o+13) (.int .i64 limit)) (h13:In64 limit)
  (c14:Cl w ao (o+14) s14) (h14:PS w N s14 ins):PC w N ao o (.mk op lang var vars rows bgp spots hops flag e aggs sorts skip limit ins)
inductive AS(w:World)(N:Nat):Value→List AG→Prop
 |mk (ao:Option Addr) (cap:Nat) (l:List AG) (hl:l.length≤N) (h:∀j (hj:j<l.length),AC w N ao (14 * j) l[j]):AS w N (.slice ao l.length cap) l
inductive AC(w:World)(N:Nat):Option Addr→Nat→AG→Prop
 |mk (ao:Option Addr) (o:Nat) (var:ByteArray) (e:X) (c0:Cl w ao o (.string var)) (h0:var.size≤N) (he:XC w N ao (o+1) e):AC w N ao o (.mk var e)
inductive SS(w:World)(N:Nat):Value→List SO→Prop
 |mk (ao:Option Addr) (cap:Nat) (l:List SO) (hl:l.length≤N) (h:∀j (hj:j<l.length),SC w N ao (14 * j) l[j]):SS w N (.slice ao l.length cap) l
inductive SC(w:World)(N:Nat):Option Addr→Nat→SO→Prop
 |mk (ao:Option Addr) (o:Nat) (e:X) (down:Bool) (he:XC w N ao o e) (c13:Cl w ao (o+13) (.bool down)):SC w N ao o (.mk e down)
end
mutual
theorem XS.stay{w w':World}{N:Nat}(hb:Below w.heap.size w w'):∀{v:Value} {l:List X},XS w N v l→XS w' N v l
 |_,_,.mk ao cap l hl h=>.mk ao cap l hl (fun j hj=>XC.stay hb (h j hj))
theorem XC.stay{w w':World}{N:Nat}(hb:Below w.heap.size w w'):∀{ao:Option Addr} {o:Nat} {x:X},XC w N ao o x→XC w' N ao o x
 |_,_,_,.mk ao o op text v flag args plan mt gp sa sp am ag cm cg c0 h0 c1 h1 hv c8 c9 ha c10 hp c11 l11 c12 l12=>
  .mk ao o op text v flag args plan mt gp sa sp am ag cm cg (c0.stay hb) h0 (c1.stay hb) h1 (hv.stay hb) (c8.stay hb) (c9.stay hb) (XS.stay hb ha) (c10.stay hb) (PS.stay hb hp) (c11.stay hb) l11 (c12.stay hb) l12
theorem PS.stay{w w':World}{N:Nat}(hb:Below w.heap.size w w'):∀{v:Value} {l:List P},PS w N v l→PS w' N v l
 |_,_,.mk ao cap l hl h=>.mk ao cap l hl (fun j hj=>PC.stay hb (h j hj))
theorem PC.stay{w w':World}{N:Nat}(hb:Below w.heap.size w w'):∀{ao:Option Addr} {o:Nat} {x:P},PC w N ao o x→PC w' N ao o x
 | _, _, _, .mk ao o op lang var vars rows bgp spots hops flag e aggs sorts skip limit ins s3 s4 s5 s6 s7 s9 s10 s11 s14 c0 h0 c1 h1 c2 h2 c3 h3 l3 c4 h4 l4 c5 h5 c6 h6 c7 h7 c8 c9 h9 c10 h10 c11 h11 c12 h12 c13 h13 c14 h14 =>
  .mk ao o op lang var vars rows bgp spots hops flag e aggs sorts skip limit ins s3 s4 s5 s6 s7 s9 s10 s11 s14 (c0.stay hb) h0 (c1.stay hb) h1 (c2.stay hb) h2 (c3.stay hb) (TextsA.below h3 hb) l3 (c4.stay hb) (h4.stay hb) l4 (c5.stay hb) (h5.stay hb) (c6.stay hb) (h6.stay hb) (c7.stay hb) (h7.stay hb) (c8.stay hb)
   (c9.stay hb) (XS.stay hb h9) (c10.stay hb) (AS.stay hb h10) (c11.stay hb) (SS.stay hb h11) (c12.stay hb) h12 (c13.stay hb) h13 (c14.stay hb) (PS.stay hb h14)
theorem AS.stay{w w':World}{N:Nat}(hb:Below w.heap.size w w'):∀{v:Value} {l:List AG},AS w N v l→AS w' N v l
 |_,_,.mk ao cap l hl h=>.mk ao cap l hl (fun j hj=>AC.stay hb (h j hj))
theorem AC.stay{w w':World}{N:Nat}(hb:Below w.heap.size w w'):∀{ao:Option Addr} {o:Nat} {x:AG},AC w N ao o x→AC w' N ao o x
 |_,_,_,.mk ao o var e c0 h0 he=>.mk ao o var e (c0.stay hb) h0 (XC.stay hb he)
theorem SS.stay{w w':World}{N:Nat}(hb:Below w.heap.size w w'):∀{v:Value} {l:List SO},SS w N v l→SS w' N v l
 |_,_,.mk ao cap l hl h=>.mk ao cap l hl (fun j hj=>SC.stay hb (h j hj))
theorem SC.stay{w w':World}{N:Nat}(hb:Below w.heap.size w w'):∀{ao:Option Addr} {o:Nat} {x:SO},SC w N ao o x→SC w' N ao o x
 |_,_,_,.mk ao o e down he c13=>.mk ao o e down (XC.stay hb he) (c13.stay hb)
end
end Go.Proofs.YtcaeipdgbaligaaGreatDoor.ex
set_option linter.unusedSimpArgs false
set_option linter.unusedVariables false
namespace Go.Proofs.YtcaeipdgbaligaaGreatDoor.ex
open Go.ChangeShapes Go.WideShapes Go.ChangeAt Go.RowKit kit val tab
open hyp (RowA TextsA textsV textsV_length)
set_option maxRecDepth 100000
mutual
def wX:X→Nat
 |.mk _ t v _ a p _ _=>1+t.size+wtV v+wXs a+wPs p
def wXs:List X→Nat
 |[]=>0
 |x::l=>wX x+wXs l
def wP:P→Nat
 |.mk _ _ v vs rs b s h _ e a o _ _ i=>1+v.size+vs.length+wtR rs+b.length+s.length+h.length+wXs e+wAs a+wSs o+wPs i
def wPs:List P→Nat
 |[]=>0
 |x::l=>wP x+wPs l
def wA:AG→Nat
 |.mk v e=>1+v.size+wX e
def wAs:List AG→Nat
 |[]=>0
 |x::l=>wA x+wAs l
def wS:SO→Nat
 |.mk e _=>1+wX e
def wSs:List SO→Nat
 |[]=>0
 |x::l=>wS x+wSs l
end
theorem wXs_eq:∀l:List X,wXs l=(l.map wX).sum
 |[]=>by simp[wXs]
 |x::l=>by rw[wXs,wXs_eq l];simp
theorem wPs_eq:∀l:List P,wPs l=(l.map wP).sum
 |[]=>by simp[wPs]
 |x::l=>by rw[wPs,wPs_eq l];simp
theorem wAs_eq:∀l:List AG,wAs l=(l.map wA).sum
 |[]=>by simp[wAs]
 |x::l=>by rw[wAs,wAs_eq l];simp
theorem wSs_eq:∀l:List SO,wSs l=(l.map wS).sum
 |[]=>by simp[wSs]
 |x::l=>by rw[wSs,wSs_eq l];simp
theorem sum_bulk{H α:Type}(f:α→Nat):∀(l:List α) (ds:List (DataW H)) (hlen:ds.length=l.length) (h:∀j (h1:j<l.length) (h2:j<ds.length),f l[j]≤Rows.uptoBulk ds[j]),(l.map f).sum≤Rows.uptoBulkAll ds
 |[],[],_,_=>by simp
 |v::l,d::ds,hlen,h=>by
  rw[Rows.uptoBulkAll,List.map_cons,List.sum_cons]
  have h0:=h 0 (by simp) (by simp)
  have:=sum_bulk f l ds (by simpa using hlen) (fun j h1 h2=>h (j+1) (by simpa using h1) (by simpa using h2))
  simp at h0
  omega
theorem one_of{cs:List Value}{k:Nat}{v:Value}(h:(cs.drop k).take 1=[v]):cs[k]? = some v:=by
 have:((cs.drop k).take 1)[0]? = some v:=by rw[h];rfl
 simpa using this
section
variable{H:Type}{enc:TypeId×Value→H}{W:World}
theorem open_list{α:Type}{t e:TypeId}{m N:Nat}(f:α→Nat)(R:Option Addr→Nat→α→Prop)(ht:Tryz.prog.underlying t=some (.slice e))(hC:Tryz.prog.cellsOf e=m)(hm:0<m){fuel:Nat}
 (each:∀n,n<fuel→∀cc y b off o,DataW.trod enc Tryz.prog W 0 (fun _=>true) true n e cc=some y→Rows.uptoBulk y.1≤N→cc.length=m→b<W.heap.size→(∀i,i<m→W.cell? ⟨b,off+o+i,none⟩=cc[i]?)→∃a,R (some ⟨b,off,none⟩) o a∧f a≤Rows.uptoBulk y.1)
 {cs:List Value}{x:DataW H×List MemPlace}(h:DataW.trod enc Tryz.prog W 0 (fun _=>true) true fuel t cs=some x)(hB:Rows.uptoBulk x.1≤N):
 ∃ao cap,∃l:List α,cs=[.slice ao l.length cap]∧l.length≤cap∧l.length+1≤Rows.uptoBulk x.1∧(∀j (hj:j<l.length),R ao (m * j) l[j])∧(l.map f).sum+1≤Rows.uptoBulk x.1:=by
 rcases DataW.trod_slice ht h with⟨rfl,rfl⟩|⟨a,len,cap,elems,rest,n,rfl,rfl,rfl,_,hl,hmx,hlen,hel,_,_⟩
 ·exact⟨none,0,[],rfl,Nat.le_refl _,by simp[Rows.uptoBulk],fun j hj=>by simp at hj,by simp[Rows.uptoBulk]⟩
 ·obtain⟨b,off,tg⟩:=a
  have hel0:elems.length≤Rows.uptoBulkAll (elems.map (·.1)):=by have:=tab.bulk_len (elems.map (·.1));simpa using this
  simp only[Rows.uptoBulk]at hB ⊢
  have htg:0<len→tg=none:=fun h0=>by
   have g1:=hel 0 (by omega)
   rw[hC,List.getElem?_eq_getElem (by omega),Option.bind_eq_some_iff]at g1
   obtain⟨cc0,g2,g3⟩:=g1
   obtain⟨_,g5,g6⟩:=World.cells?_some g2
   have g7:=g6 0 hm
   rw[List.getElem?_eq_getElem (by omega)]at g7
   simpa[Addr.add]using World.cell?_spot g7
  obtain⟨l,rfl,hl2⟩:=choose_list (n:=len) (P:=fun j (q:α)=>R (some ⟨b,off,tg⟩) (m * j) q∧∀hj:j<elems.length,f q≤Rows.uptoBulk elems[j].1) (fun j hj=>by
   obtain rfl:=htg (by omega)
   have h1:=hel j hj
   rw[hC,List.getElem?_eq_getElem (by omega),Option.bind_eq_some_iff]at h1
   obtain⟨cc,h2,h3⟩:=h1
   obtain⟨_,h5,h6⟩:=World.cells?_some h2
   have hcell:∀i,i<m→W.cell? ⟨b,off+m * j+i,none⟩=cc[i]?:=fun i hi=>by
    have h8:=h6 i hi
    rw[Go.WideShapes.add_plain,Go.WideShapes.add_plain]at h8
    rw[Nat.mul_comm m j]
    exact h8
   have h9:=hcell 0 hm
   rw[List.getElem?_eq_getElem (by omega)]at h9
   obtain⟨ob,ho,_⟩:=cells_of_cell h9
   have hm8:=tab.bulk_mem (elems.map (·.1)) (elems[j]'(by omega)).1 (List.mem_map.2 ⟨_,List.getElem_mem _,rfl⟩)
   obtain⟨q,hq,hw⟩:=each n (by omega) cc _ b off (m * j) h3 (by omega) (by omega) (Array.getElem?_eq_some_iff.1 ho).1 hcell
   exact⟨q,hq,fun _=>hw⟩)
  refine⟨_,cap,l,rfl,hl,by omega,fun j hj=>(hl2 j hj).1,?_⟩
  have:=sum_bulk f l (elems.map (·.1)) (by rw[List.length_map];omega) (fun j h1 h2=>by rw[List.getElem_map];exact(hl2 j h1).2 _)
  omega
theorem cl_of{b off o m k:Nat}{cc:List Value}{v:Value}(hb:b<W.heap.size)(hc:∀i,i<m→W.cell? ⟨b,off+o+i,none⟩=cc[i]?)(hk:k<m)(h:(cc.drop k).take 1=[v]):Cl W (some ⟨b,off,none⟩) (o+k) v:=
 ⟨b,off,rfl,hb,by rw[←Nat.add_assoc,hc k hk];exact one_of h⟩
theorem part_of{b off o m k c:Nat}{cc:List Value}(hc:∀i,i<m→W.cell? ⟨b,off+o+i,none⟩=cc[i]?)(hk:k+c≤m):∀i,i<c→W.cell? ⟨b,off+(o+k)+i,none⟩=((cc.drop k).take c)[i]?:=fun i hi=>by
 have:=hc (k+i) (by omega)
 rw[List.getElem?_take_of_lt hi,List.getElem?_drop,←this]
 congr 2
 omega
theorem str_of{fuel:Nat}{cs:List Value}{x:DataW H×List MemPlace}(h:DataW.trod enc Tryz.prog W 0 (fun _=>true) true fuel 9 cs=some x):∃s:ByteArray,cs=[.string s]∧s.size+1=Rows.uptoBulk x.1:=by
 obtain⟨s,rfl,rfl,hs⟩:=DataW.trod_string Tryz.underlying9 h
 exact⟨s,rfl,by simp[Rows.uptoBulk]⟩
theorem int_of{fuel:Nat}{cs:List Value}{x:DataW H×List MemPlace}(h:DataW.trod enc Tryz.prog W 0 (fun _=>true) true fuel 3 cs=some x):∃n:Int,cs=[.int .i64 n]∧In64 n:=by
 obtain⟨k,rfl,-,hs⟩:=DataW.trod_int Tryz.underlying3 h
 exact⟨k,rfl,wf64 hs⟩
theorem int64_of{fuel:Nat}{cs:List Value}{x:DataW H×List MemPlace}(h:DataW.trod enc Tryz.prog W 0 (fun _=>true) true fuel 2 cs=some x):∃n:Int,cs=[.int .i64 n]∧In64 n:=by
 obtain⟨k,rfl,-,hs⟩:=DataW.trod_int Tryz.underlying2 h
 exact⟨k,rfl,wf64 hs⟩
theorem bool_of{fuel:Nat}{cs:List Value}{x:DataW H×List MemPlace}(h:DataW.trod enc Tryz.prog W 0 (fun _=>true) true fuel 4 cs=some x):∃n:Bool,cs=[.bool n]:=by
 obtain⟨k,rfl,-⟩:=DataW.trod_bool Tryz.underlying4 h
 exact⟨k,rfl⟩
theorem len_of{t e:TypeId}(ht:Tryz.prog.underlying t=some (.slice e)){fuel:Nat}{cs:List Value}{x:DataW H×List MemPlace}(h:DataW.trod enc Tryz.prog W 0 (fun _=>true) true fuel t cs=some x):∃ao len cap,cs=[.slice ao len cap]∧len≤Rows.uptoBulk x.1:=by
 rcases DataW.trod_slice ht h with⟨rfl,rfl⟩|⟨a,len,cap,elems,rest,n,rfl,rfl,rfl,_,hl,hmx,hlen,_⟩
 ·exact⟨_,_,_,rfl,Nat.zero_le _⟩
 ·have hel0:elems.length≤Rows.uptoBulkAll (elems.map (·.1)):=by have:=tab.bulk_len (elems.map (·.1));simpa using this
  refine⟨_,_,_,rfl,?_⟩
  simp only[Rows.uptoBulk]
  omega
theorem v_of{N fuel:Nat}{cs:List Value}{y:DataW H×List MemPlace}{b off o:Nat}(h:DataW.trod enc Tryz.prog W 0 (fun _=>true) true fuel 38 cs=some y)(hB:Rows.uptoBulk y.1≤N)(hc:∀i,i<6→W.cell? ⟨b,off+o+i,none⟩=cs[i]?):∃v,EA W N (some ⟨b,off,none⟩) o v∧wtV v≤Rows.uptoBulk y.1:=
 ea_of_trodW (fun m _=>la_of_trodW m) h (.inr hB) hc
end
end Go.Proofs.YtcaeipdgbaligaaGreatDoor.ex
