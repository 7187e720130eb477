/- Texts TabOpenW, TabLightK, one behind the other. -/
import Derived.Test.YtmpldjbdhbapbaaGreatDoorVWtA
import Derived.Test.YtmpldjbdhbapbaaGreatDoorTabIA
set_option linter.unusedSimpArgs false
set_option linter.unusedVariables false
set_option maxRecDepth 100000
set_option maxHeartbeats 2000000
namespace Go.Proofs.YtmpldjbdhbapbaaGreatDoor.tab
open Go.ChangeShapes Go.WideShapes Go.ChangeAt Go.RowKit kit val
open hyp (RowA TextsA textsV textsV_length)
set_option maxRecDepth 100000
def wtR:List (List V)→Nat
 |[]=>0
 |r::rs=>1+wtL r+wtR rs
theorem wtR_le{H:Type}:∀(l:List (List V)) (ds:List (DataW H)) (hlen:ds.length=l.length) (h:∀j (h1:j<l.length) (h2:j<ds.length),1+wtL l[j]≤Rows.uptoBulk ds[j]),wtR l≤Rows.uptoBulkAll ds
 |[],[],_,_=>by simp[wtR]
 |v::l,d::ds,hlen,h=>by
  rw[wtR,Rows.uptoBulkAll]
  have h0:=h 0 (by simp) (by simp)
  have:=wtR_le l ds (by simpa using hlen) (fun j h1 h2=>h (j+1) (by simpa using h1) (by simpa using h2))
  simp at h0
  omega
theorem wtR_len(l:List (List V)):l.length≤wtR l:=by
 induction l with
 |nil=>simp
 |cons v r ih=>rw[wtR,List.length_cons];omega
theorem choose_list{α:Type}{n:Nat}{P:Nat→α→Prop}(h:∀j,j<n→∃a,P j a):∃l:List α,l.length=n∧∀j (hj:j<l.length),P j l[j]:=by
 refine⟨(List.finRange n).map fun j=>(h j.1 j.2).choose,by simp,fun j hj=>?_⟩
 have hj':j<n:=by simpa using hj
 simp only[List.getElem_map,List.getElem_finRange]
 exact(h j hj').choose_spec
theorem bulk_pos{H:Type}:∀d:DataW H,1≤Rows.uptoBulk d
 |.lit l=>by cases l<;>simp[Rows.uptoBulk]
 |.nil=>by simp[Rows.uptoBulk]
 |.ptr d=>by simp[Rows.uptoBulk]
 |.slice e s=>by simp[Rows.uptoBulk]
 |.agg p=>by simp[Rows.uptoBulk]
 |.iface _ d=>by simp[Rows.uptoBulk]
 |.map e=>by simp[Rows.uptoBulk]
 |.held _=>by simp[Rows.uptoBulk]
theorem bulk_mem{H:Type}:∀(ds:List (DataW H)) (d:DataW H),d∈ds→Rows.uptoBulk d≤Rows.uptoBulkAll ds
 |[],d,h=>by cases h
 |e::ds,d,h=>by
  rw[Rows.uptoBulkAll]
  rcases List.mem_cons.1 h with rfl|h
  ·omega
  ·have:=bulk_mem ds d h;omega
theorem bulk_len{H:Type}:∀ds:List (DataW H),ds.length≤Rows.uptoBulkAll ds
 |[]=>by simp[Rows.uptoBulkAll]
 |e::ds=>by
  rw[Rows.uptoBulkAll,List.length_cons]
  have:=bulk_len ds
  have:=bulk_pos e
  omega
section
variable{H:Type}{enc:TypeId×Value→H}{W:World}
theorem open_slice{t e:TypeId}{m:Nat}(ht:Tryz.prog.underlying t=some (.slice e))(hC:Tryz.prog.cellsOf e=m)(hm:0<m){fuel:Nat}{cs:List Value}{x:DataW H×List MemPlace}(h:DataW.trod enc Tryz.prog W 0 (fun _=>true) true fuel t cs=some x):
 ∃ao len cap,cs=[.slice ao len cap]∧len≤cap∧len≤Rows.uptoBulk x.1∧∀j,j<len→∃b off cc y n,ao=some ⟨b,off,none⟩∧b<W.heap.size∧DataW.trod enc Tryz.prog W 0 (fun _=>true) true n e cc=some y∧Rows.uptoBulk y.1≤Rows.uptoBulk x.1∧cc.length=m∧∀i,i<m→W.cell? ⟨b,off+j * m+i,none⟩=cc[i]?:=by
 rcases DataW.trod_slice ht h with⟨rfl,rfl⟩|⟨a,len,cap,elems,rest,n,rfl,rfl,rfl,_,hl,hmx,hlen,hel,_,_⟩
 ·exact⟨none,0,0,rfl,Nat.le_refl _,Nat.zero_le _,fun j hj=>by omega⟩
 ·obtain⟨b,off,tg⟩:=a
  have hel0:elems.length≤Rows.uptoBulkAll (elems.map (·.1)):=by have:=bulk_len (elems.map (·.1));simpa using this
  refine⟨_,len,cap,rfl,hl,by simp only[Rows.uptoBulk];omega,fun j hj=>?_⟩
  have h1:=hel j hj
  rw[hC,List.getElem?_eq_getElem (by omega),Option.bind_eq_some_iff]at h1
  obtain⟨cc,h2,h3⟩:=h1
  obtain⟨_,h5,h6⟩:=World.cells?_some h2
  have htg:tg=none:=by
   have g1:=hel 0 (by omega)
   rw[hC,List.getElem?_eq_getElem (by omega),Option.bind_eq_some_iff]at g1
   obtain⟨cc0,g2,g3⟩:=g1
   obtain⟨_,g5,g6⟩:=World.cells?_some g2
   have g7:=g6 0 hm
   rw[List.getElem?_eq_getElem (by omega)]at g7
   simpa[Addr.add]using World.cell?_spot g7
  subst htg
  have hcell:∀i,i<m→W.cell? ⟨b,off+j * m+i,none⟩=cc[i]?:=fun i hi=>by
   have h8:=h6 i hi
   rw[Go.WideShapes.add_plain,Go.WideShapes.add_plain]at h8
   exact h8
  have h9:=hcell 0 hm
  rw[List.getElem?_eq_getElem (by omega)]at h9
  obtain⟨ob,ho,_⟩:=cells_of_cell h9
  refine⟨b,off,cc,elems[j],n,rfl,(Array.getElem?_eq_some_iff.1 ho).1,h3,?_,by omega,hcell⟩
  have:=bulk_mem (elems.map (·.1)) elems[j].1 (List.mem_map.2 ⟨_,List.getElem_mem _,rfl⟩)
  simp only[Rows.uptoBulk]
  omega
theorem row_of{ao:Option Addr}{cap:Nat}{L:List Value}(hl:L.length≤cap)(h:∀j (hj:j<L.length),∃b off,ao=some ⟨b,off,none⟩∧b<W.heap.size∧W.cell? ⟨b,off+j,none⟩=some L[j]):RowA W W.heap.size (.slice ao L.length cap) L:=by
 by_cases h0:L=[]
 ·subst h0
  exact .inl ⟨ao,cap,rfl,rfl⟩
 ·have hpos:=List.length_pos_iff.2 h0
  obtain⟨b,off,rfl,hb,_⟩:=h 0 hpos
  refine .inr ⟨b,off,cap,rfl,hpos,hl,hb,fun j hj=>?_⟩
  obtain⟨b',off',e,_,hc⟩:=h j hj
  cases e
  exact hc
theorem texts_of{fuel:Nat}{cs:List Value}{x:DataW H×List MemPlace}(h:DataW.trod enc Tryz.prog W 0 (fun _=>true) true fuel 22 cs=some x):∃v l,cs=[v]∧TextsA W W.heap.size v l∧l.length≤Rows.uptoBulk x.1:=by
 obtain⟨ao,len,cap,rfl,hl,hb,hel⟩:=open_slice Tryz.underlying22 (e:=9) (m:=1) (by kernel_rfl) (by decide) h
 obtain⟨l,rfl,hl2⟩:=choose_list (P:=fun j (s:ByteArray)=>s.size≤maxLen∧∃b off,ao=some ⟨b,off,none⟩∧b<W.heap.size∧W.cell? ⟨b,off+j,none⟩=some (.string s)) (fun j hj=>by
  obtain⟨b,off,cc,y,n,h1,h2,h3,-,-,h4⟩:=hel j hj
  obtain⟨s,rfl,-,hs⟩:=DataW.trod_string Tryz.underlying9 h3
  have h5:=h4 0 (by decide)
  rw[Nat.mul_one,Nat.add_zero]at h5
  exact⟨s,hs,b,off,h1,h2,h5⟩)
 refine⟨_,l,rfl,⟨?_,fun s hs=>?_⟩,hb⟩
 ·have:=row_of (W:=W) (ao:=ao) (cap:=cap) (L:=textsV l) (by rw[textsV_length];exact hl) (fun j hj=>by
   obtain⟨-,b,off,h1,h2,h3⟩:=hl2 j (by simpa using hj)
   exact⟨b,off,h1,h2,by rw[h3];simp[textsV]⟩)
  rw[textsV_length]at this
  exact this
 ·obtain⟨j,hj,rfl⟩:=List.getElem_of_mem hs
  exact(hl2 j hj).1
theorem rows_of{N:Nat}{fuel:Nat}{cs:List Value}{x:DataW H×List MemPlace}(h:DataW.trod enc Tryz.prog W 0 (fun _=>true) true fuel 23 cs=some x)(hB:Rows.uptoBulk x.1≤N):
 ∃v rs,cs=[v]∧RowsA W N v rs∧wtR rs≤Rows.uptoBulk x.1:=by
 have hC:Tryz.prog.cellsOf 32=1:=by kernel_rfl
 rcases DataW.trod_slice Tryz.underlying23 h with⟨rfl,rfl⟩|⟨a,len,cap,elems,rest,n,rfl,rfl,rfl,_,hl,hm,hlen,hel,_,_⟩
 ·exact⟨_,[],rfl,⟨[],rfl,.inl ⟨none,0,rfl,rfl⟩,fun j hj=>by simp at hj⟩,by simp[wtR]⟩
 ·obtain⟨b,off,tg⟩:=a
  have hbk:Rows.uptoBulkAll (elems.map (·.1))≤Rows.uptoBulk (DataW.slice (elems.map (·.1)) (rest.map (·.1))):=by simp only[Rows.uptoBulk];omega
  replace hB:Rows.uptoBulk (DataW.slice (elems.map (·.1)) (rest.map (·.1)))≤N:=hB
  have htg:0<len→tg=none:=fun h0=>by
   have g1:=hel 0 (by omega)
   rw[hC,List.getElem?_eq_getElem (by omega),Option.bind_eq_some_iff]at g1
   obtain⟨cc0,g2,g3⟩:=g1
   obtain⟨_,g5,g6⟩:=World.cells?_some g2
   have g7:=g6 0 (by decide)
   rw[List.getElem?_eq_getElem (by omega)]at g7
   simpa[Addr.add]using World.cell?_spot g7
  obtain⟨l,rfl,hl2⟩:=choose_list (n:=len) (P:=fun j (p:Value×List V)=>LA W N p.1 p.2∧(∀hj:j<elems.length,1+wtL p.2≤Rows.uptoBulk elems[j].1)∧∃b2 off2,some (⟨b,off,tg⟩:Addr)=some ⟨b2,off2,none⟩∧b2<W.heap.size∧W.cell? ⟨b2,off2+j,none⟩=some p.1) (fun j hj=>by
   have h1:=hel j hj
   rw[hC,List.getElem?_eq_getElem (by omega),Option.bind_eq_some_iff]at h1
   obtain⟨cc,h2,h3⟩:=h1
   obtain⟨_,h5,h6⟩:=World.cells?_some h2
   have hmem:elems[j]'(by omega)∈elems:=List.getElem_mem _
   have h8:=bulk_mem (elems.map (·.1)) (elems[j]'(by omega)).1 (List.mem_map.2 ⟨_,hmem,rfl⟩)
   obtain⟨s,r,rfl,hla,hw⟩:=la_of_trodW (N:=N) n h3 (.inr (by omega))
   have h7:=h6 0 (by decide)
   obtain rfl:=htg (by omega)
   rw[Go.WideShapes.add_plain,Go.WideShapes.add_plain,Nat.mul_one,Nat.add_zero]at h7
   obtain⟨ob,ho,_⟩:=cells_of_cell h7
   exact⟨(s,r),hla,fun _=>by show 1+wtL r≤_;omega,b,off,rfl,(Array.getElem?_eq_some_iff.1 ho).1,h7⟩)
  have hE:(l.map (·.2)).length=l.length:=by simp
  refine⟨_,l.map (·.2),rfl,⟨l.map (·.1),by simp,?_,fun j hj hj'=>?_⟩,?_⟩
  ·have:=row_of (W:=W) (ao:=some ⟨b,off,tg⟩) (cap:=cap) (L:=l.map (·.1)) (by rw[List.length_map];exact hl) (fun j hj=>by
    obtain⟨-,-,b2,off2,h1,h2,h3⟩:=hl2 j (by simpa using hj)
    exact⟨b2,off2,h1,h2,by rw[h3];simp⟩)
   rw[List.length_map]at this
   exact this
  ·simp only[List.getElem_map]
   exact(hl2 j (by simpa using hj)).1
  ·refine Nat.le_trans (wtR_le _ (elems.map (·.1)) (by rw[List.length_map,hE];omega) (fun j h1 h2=>?_)) hbk
   rw[List.getElem_map,List.getElem_map]
   exact(hl2 j (by simpa using h1)).2.1 _
theorem tab_of{N:Nat}{fuel:Nat}{cs:List Value}{x:DataW H×List MemPlace}(h:DataW.trod enc Tryz.prog W 0 (fun _=>true) true fuel 25 cs=some x)(hB:Rows.uptoBulk x.1≤N):
 ∃(vv rv:Value) (t:Tab),cs=[vv,rv]∧TextsA W W.heap.size vv t.vars∧RowsA W N rv t.rows∧t.vars.length+wtR t.rows≤Rows.uptoBulk x.1:=by
 have hC1:Tryz.prog.cellsOf 22=1:=by kernel_rfl
 have hC2:Tryz.prog.cellsOf 23=1:=by kernel_rfl
 have hC:Tryz.prog.cellsOf 25=2:=by kernel_rfl
 obtain⟨xs,n',rfl,rfl,hcl,hxl,hf⟩:=DataW.trod_struct Tryz.underlying25 h
 rw[hC]at hcl
 match cs,hcl with
 | [c0, c1], _ =>
  match xs,hxl with
  |[y0,y1],_=>
   have f0:=hf 0 _ rfl
   have f1:=hf 1 _ rfl
   simp[hC1,hC2]at f0 f1
   simp only[List.map_cons,List.map_nil,Rows.uptoBulk,Rows.uptoBulkAll]at hB
   obtain⟨vv,ns,e0,t0,b0⟩:=texts_of f0
   obtain⟨rv,rs,e1,t1,b1⟩:=rows_of (N:=N) f1 (by omega)
   simp only[List.cons.injEq,and_true]at e0 e1
   subst e0 e1
   refine⟨c0,c1,⟨ns,rs⟩,rfl,t0,t1,?_⟩
   ·simp only[List.map_cons,List.map_nil,Rows.uptoBulk,Rows.uptoBulkAll];omega
end
open dec
open hyp (RowA TextsA CellsStay stay_of_below textsV textsV_length own_row)
def sizeR:List (List V)→Nat
 |[]=>0
 |r::rs=>1+sizeL r+sizeR rs
theorem sizeR_wt:∀rs,sizeR rs≤wtR rs
 |[]=>by rw[sizeR,wtR];omega
 |r::rs=>by rw[sizeR,wtR];have:=sizeL_wt r;have:=sizeR_wt rs;omega
theorem sizeR_take(l:List (List V))(k:Nat)(h:k<l.length):sizeR (l.take (k+1))=sizeR (l.take k)+1+sizeL l[k]:=by
 induction l generalizing k with
 |nil=>simp at h
 | cons v r ih =>
  cases k with
  |zero=>simp[sizeR]
  |succ k=>
   rw[List.take_succ_cons,List.take_succ_cons,sizeR,sizeR,ih k (by simpa using h)]
   simp
   omega
theorem sizeR_take_le(l:List (List V))(k:Nat):sizeR (l.take k)≤sizeR l:=by
 induction l generalizing k with
 |nil=>simp[sizeR]
 |cons v r ih=>
  cases k with
  |zero=>simp[sizeR]
  |succ k=>rw[List.take_succ_cons,sizeR,sizeR];have:=ih k;omega
theorem kitRows_any(N:Nat)(hN:N≤1048576)(w:World)(v:Value)(rs:List (List V))(hR:RowsA w N v rs)(hl:wtR rs≤1048576):
 Calls Tryz.prog 13 #[v] w fun e w'=>e=.returned (.int .i64 (sizeR rs:Nat))∧Below w.heap.size w w':=by
 obtain⟨ar,cr,rfl,-,hrc⟩:=hR.form
 have hle:=sizeR_wt rs
 have hlen:=wtR_len rs
 replace hrc:=Hd hrc
 clear hR
 go_enter Tryz.func13,Tryz.ntmps13
 go_wp2
 go_loopw [3,4] (fun s i wr=>∃k:Nat,k≤rs.length∧i=.int .i64 (k:Int)∧s=.int .i64 (sizeR (rs.take k):Nat)∧Hid (Below w.heap.size w wr)) (fun _ i _=>rs.length-(intOf i).toNat)
 case atStart=>exact⟨0,by omega,rfl,by simp[sizeR],Hd (Below.refl _ _)⟩
 case round=>
  obtain⟨k,hk,rfl,rfl,hb⟩:=hrel
  by_cases hlt:k<rs.length
  ·have hki:(k:Int)<(rs.length:Int):=by omega
   have hk1:=Hd (show k+1≤rs.length from hlt)
   obtain⟨b1,o1,a,c,rfl,hb1,hcell,hla⟩:=hrc.out k hlt
   replace hcell:=sB hb.out hcell
   have hst:=sizeR_take rs k hlt
   have hsle:=sizeR_take_le rs (k+1)
   have hcl:=size_all N (by omega) (SizeOf.sizeOf rs[k]+1) wr _ rs[k] (Nat.lt_succ_self _) (hla.stay hb.out) (by omega)
   have hsum:wrap64 (wrap64 ((sizeR (rs.take k):Nat)+1:Int)+(sizeL rs[k]:Nat))=((sizeR (rs.take (k+1)):Nat):Int):=by
    rw[IntWalk.wrap64_in ((sizeR (rs.take k):Nat)+1:Int) (by omega),IntWalk.wrap64_in _ (by omega)]
    omega
   replace hcl:=Hd hcl
   replace hsum:=Hd hsum
   clear hla hst hsle
   generalize rs[k]=r at *
   go_wp2_with fail
   refine hcl.out.mono ?_
   rintro e w2 ⟨rfl,hb2⟩
   have hb3:=Hd (hb.out.trans (hb2.mono hb.out.size))
   clear hb hb2 hcl hcell
   go_wp2
   go_roundw
   case rel=>exact⟨k+1,hk1.out,by go_num,congrArg (Value.int .i64) hsum.out,hb3⟩
   case measure=>have:=hk1.out;simp[intOf];omega
  ·have hki:¬(k:Int)<(rs.length:Int):=by omega
   obtain rfl:k=rs.length:=by omega
   go_wp2
   go_ret
   exact⟨ret_int (by first|rfl|rw[List.take_length]),hb.out⟩
end Go.Proofs.YtmpldjbdhbapbaaGreatDoor.tab
