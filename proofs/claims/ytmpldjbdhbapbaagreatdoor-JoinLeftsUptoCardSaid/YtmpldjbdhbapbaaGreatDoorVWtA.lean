/- Texts VWt, VSize, one behind the other. -/
import Derived.Test.YtmpldjbdhbapbaaGreatDoorVSameA
import Derived.IntWalk
set_option linter.unusedSimpArgs false
set_option linter.unusedVariables false
set_option maxRecDepth 100000
set_option maxHeartbeats 2000000
namespace Go.Proofs.YtmpldjbdhbapbaaGreatDoor.val
open Go.ChangeShapes Go.WideShapes Go.ChangeAt Go.RowKit kit
mutual
def wtV:V→Nat
 |.mk _ _ _ t x l=>1+t.size+x.size+wtL l
def wtL:List V→Nat
 |[]=>0
 |v::r=>wtV v+wtL r
end
mutual
theorem sizeV_wt:∀v,sizeV v≤wtV v
 |.mk _ _ _ t x l=>by rw[sizeV,wtV];have:=sizeL_wt l;omega
theorem sizeL_wt:∀l,sizeL l≤wtL l
 |[]=>by rw[sizeL,wtL];omega
 |v::r=>by rw[sizeL,wtL];have:=sizeV_wt v;have:=sizeL_wt r;omega
end
theorem wtL_le{H:Type}:∀(l:List V) (ds:List (DataW H)) (hlen:ds.length=l.length) (h:∀j (h1:j<l.length) (h2:j<ds.length),wtV l[j]≤Rows.uptoBulk ds[j]),wtL l≤Rows.uptoBulkAll ds
 |[],[],_,_=>by simp[wtL]
 |v::l,d::ds,hlen,h=>by
  rw[wtL,Rows.uptoBulkAll]
  have h0:=h 0 (by simp) (by simp)
  have:=wtL_le l ds (by simpa using hlen) (fun j h1 h2=>h (j+1) (by simpa using h1) (by simpa using h2))
  simp at h0
  omega
section
variable{H:Type}{enc:TypeId×Value→H}{W:World}{N:Nat}
theorem ea_of_trodW{fuel:Nat}{cs:List Value}{y:DataW H×List MemPlace}{b off o:Nat}
 (ih:∀m,m<fuel→∀{cs x},DataW.trod enc Tryz.prog W 0 (fun _=>true) true m 32 cs=some x→Bd N x.1→∃s l,cs=[s]∧LA W N s l∧wtL l+1≤Rows.uptoBulk x.1)
 (h:DataW.trod enc Tryz.prog W 0 (fun _=>true) true fuel 34 cs=some y)(hB:Bd N y.1)(hc:∀i,i<6→W.cell? ⟨b,off+o+i,none⟩=cs[i]?):∃v,EA W N (some ⟨b,off,none⟩) o v∧wtV v≤Rows.uptoBulk y.1:=by
 obtain⟨xs,n',rfl,rfl,hcl,hxl,hf⟩:=DataW.trod_struct Tryz.underlying34 h
 have hC:Tryz.prog.cellsOf 34=6:=by kernel_rfl
 have hC1:Tryz.prog.cellsOf 3=1:=by kernel_rfl
 have hC2:Tryz.prog.cellsOf 4=1:=by kernel_rfl
 have hC3:Tryz.prog.cellsOf 2=1:=by kernel_rfl
 have hC4:Tryz.prog.cellsOf 9=1:=by kernel_rfl
 have hC5:Tryz.prog.cellsOf 32=1:=by kernel_rfl
 rw[hC]at hcl
 match cs,hcl with
 | [c0, c1, c2, c3, c4, c5], _ =>
  match xs,hxl with
  | [y0, y1, y2, y3, y4, y5], _ =>
   have f0:=hf 0 _ rfl
   have f1:=hf 1 _ rfl
   have f2:=hf 2 _ rfl
   have f3:=hf 3 _ rfl
   have f4:=hf 4 _ rfl
   have f5:=hf 5 _ rfl
   simp[hC1,hC2,hC3,hC4,hC5]at f0 f1 f2 f3 f4 f5
   obtain⟨k,e0,g0,w0⟩:=DataW.trod_int Tryz.underlying3 f0
   obtain⟨bo,e1,g1⟩:=DataW.trod_bool Tryz.underlying4 f1
   obtain⟨n,e2,g2,w2⟩:=DataW.trod_int Tryz.underlying2 f2
   obtain⟨t,e3,g3,w3⟩:=DataW.trod_string Tryz.underlying9 f3
   obtain⟨x,e4,g4,w4⟩:=DataW.trod_string Tryz.underlying9 f4
   obtain⟨s,l,e5,hs,hwt⟩:=ih n' (by omega) f5 (hB.agg (by simp))
   have hb3:Bd N y3.1:=hB.agg (by simp)
   have hb4:Bd N y4.1:=hB.agg (by simp)
   simp at e0 e1 e2 e3 e4 e5
   subst e0 e1 e2 e3 e4 e5
   rw[g3]at hb3
   rw[g4]at hb4
   have c0:=hc 0 (by decide)
   have c1:=hc 1 (by decide)
   have c2:=hc 2 (by decide)
   have c3:=hc 3 (by decide)
   have c4:=hc 4 (by decide)
   have c5:=hc 5 (by decide)
   have hlt:b<W.heap.size:=by
    obtain⟨ob,ho,_⟩:=cells_of_cell c0
    exact(Array.getElem?_eq_some_iff.1 ho).1
   refine⟨.mk k bo n t x l,.mk b off o k bo n t x l _ ⟨hlt,c0,c1,c2,c3,c4,c5⟩ (wf64 w0) (wf64 w2) (hb3.text w3) (hb4.text w4) hs,?_⟩
   rw[wtV]
   simp only[List.map_cons,List.map_nil,Rows.uptoBulk,Rows.uptoBulkAll,g3,g4]
   have z3:t.data.toList.length=t.size:=by simp
   have z4:x.data.toList.length=x.size:=by simp
   rw[z3,z4]
   omega
theorem la_of_trodW:∀fuel {cs:List Value} {x:DataW H×List MemPlace},DataW.trod enc Tryz.prog W 0 (fun _=>true) true fuel 32 cs=some x→Bd N x.1→∃s l,cs=[s]∧LA W N s l∧wtL l+1≤Rows.uptoBulk x.1:=by
 intro fuel
 induction fuel using Nat.strongRecOn with
 | ind fuel ih =>
  intro cs x h hB
  have hC:Tryz.prog.cellsOf 34=6:=by kernel_rfl
  rcases DataW.trod_slice Tryz.underlying32 h with⟨rfl,rfl⟩|⟨a,len,cap,elems,rest,n,rfl,rfl,rfl,_,hl,hm,hlen,hel,_,_⟩
  ·exact⟨_,[],rfl,.mk none 0 [] (by simp) (fun j hj=>by simp at hj),by simp[wtL,bulk_one]⟩
  ·have hNl:len≤N:=by
    have:=hB.len (by rw[List.length_map];omega)
    rw[List.length_map]at this
    omega
   obtain⟨b,off,tg⟩:=a
   have get:∀j (hj:j<len),∃c6,W.cells? 0 ((⟨b,off,tg⟩:Addr).add (j * 6)) 6=some c6∧DataW.trod enc Tryz.prog W 0 (fun _=>true) true n 34 c6=some (elems[j]'(by omega)):=by
    intro j hj
    have h1:=hel j hj
    rw[hC,List.getElem?_eq_getElem (by omega)]at h1
    rw[Option.bind_eq_some_iff]at h1
    obtain⟨c6,h2,h3⟩:=h1
    exact⟨c6,h2,h3⟩
   have htg:0<len→tg=none:=by
    intro h0
    obtain⟨c6,h2,_⟩:=get 0 h0
    obtain⟨_,h5,h6⟩:=World.cells?_some h2
    have h7:=h6 0 (by decide)
    rw[List.getElem?_eq_getElem (by omega)]at h7
    simpa[Addr.add]using World.cell?_spot h7
   have each:∀j (hj:j<len),∃v,EA W N (some ⟨b,off,tg⟩) (6 * j) v∧wtV v≤Rows.uptoBulk (elems[j]'(by omega)).1:=by
    intro j hj
    obtain rfl:=htg (by omega)
    obtain⟨c6,h2,h3⟩:=get j hj
    have hmem:elems[j]'(by omega)∈elems:=List.getElem_mem _
    obtain⟨_,h5,h6⟩:=World.cells?_some h2
    exact ea_of_trodW (fun m hm=>ih m (by omega)) h3 (hB.elem (List.mem_map.2 ⟨_,hmem,rfl⟩)) (fun i hi=>by
     have h7:=h6 i hi
     rw[Go.WideShapes.add_plain,Go.WideShapes.add_plain]at h7
     rw[Nat.mul_comm 6 j]
     exact h7)
   have hch:∃l:List V,l.length=len∧∀j (hj:j<l.length) (hj2:j<len),EA W N (some ⟨b,off,tg⟩) (6 * j) l[j]∧wtV l[j]≤Rows.uptoBulk (elems[j]'(by omega)).1:=by
    refine⟨(List.finRange len).map fun j=>(each j.1 j.2).choose,by simp,fun j hj hj'=>?_⟩
    simp only[List.getElem_map,List.getElem_finRange]
    exact(each j hj').choose_spec
   obtain⟨l,rfl,hel2⟩:=hch
   refine⟨_,l,rfl,.mk _ cap l hNl (fun j hj=>(hel2 j hj hj).1),?_⟩
   have:=wtL_le l (elems.map (·.1)) (by rw[List.length_map];omega) (fun j h1 h2=>by rw[List.getElem_map];exact(hel2 j h1 h1).2)
   simp only[Rows.uptoBulk]
   omega
end
open Go.ChangeShapes Go.WideShapes Go.ChangeAt Go.RowKit kit dec
theorem size_sum(n t x r:Nat)(h:n+1+t / 64+x / 64+r≤1000000000000000000)(ht:t≤9223372036854775807)(hx:x≤9223372036854775807):
 IntKind.i64.wrap (IntKind.i64.wrap (IntKind.i64.wrap (IntKind.i64.wrap ((n:Int)+1)+IntKind.i64.wrap ((t:Int).tdiv 64))+IntKind.i64.wrap ((x:Int).tdiv 64))+(r:Int))=((n+1+t / 64+x / 64+r:Nat):Int):=by
 have e1:(t:Int).tdiv 64=((t / 64:Nat):Int):=by simp[Int.tdiv]
 have e2:(x:Int).tdiv 64=((x / 64:Nat):Int):=by simp[Int.tdiv]
 rw[e1,e2,IntWalk.i64_in ((n:Int)+1) (by omega),IntWalk.i64_in ((t / 64:Nat):Int) (by omega),IntWalk.i64_in ((n:Int)+1+((t / 64:Nat):Int)) (by omega),IntWalk.i64_in ((x / 64:Nat):Int) (by omega),IntWalk.i64_in ((n:Int)+1+((t / 64:Nat):Int)+((x / 64:Nat):Int)) (by omega),IntWalk.i64_in _ (by omega)]
 omega
theorem size_all(N:Nat)(hN:N≤9223372036854775807):∀m (w:World) (s:Value) (l:List V),SizeOf.sizeOf l<m→LA w N s l→sizeL l≤1000000000000000000 →
 Calls Tryz.prog 40 #[s] w fun e w'=>e=.returned (.int .i64 (sizeL l))∧Below w.heap.size w w':=by
 intro m
 induction m with
 |zero=>intro w s l hm;omega
 | succ m ih =>
  intro w s l hm ha hsz
  cases ha with
  | mk ao cap l hl h =>
   replace h:=Hd h
   replace ih:=Hd ih
   have hli:(l.length:Int)≤9223372036854775807:=by omega
   go_enter Tryz.func40,Tryz.ntmps40
   go_wp2
   go_loopw [3,4] (fun v3 v wr=>∃k:Nat,k≤l.length∧v=.int .i64 k∧v3=.int .i64 (sizeL (l.take k):Nat)∧Hid (Below w.heap.size w wr)) (fun _ v _=>l.length-(intOf v).toNat)
   case atStart=>exact⟨0,by omega,rfl,by simp[sizeL],Below.refl _ _⟩
   case round=>
    obtain⟨k,hk,rfl,rfl,hb⟩:=hrel
    obtain⟨w0,rfl⟩:∃w0:World,w0=wr:=⟨_,rfl⟩
    by_cases hlt:k<l.length
    ·have hki:(k:Int)<(l.length:Int):=by omega
     have hel:=(h.out k hlt).stay hb.out
     have hst:=sizeL_take l k hlt
     have hsle:=sizeL_take_le l (k+1)
     rw[Nat.mul_comm 6 k]at hel
     have hmem:SizeOf.sizeOf (l[k]'(by omega))<SizeOf.sizeOf l:=List.sizeOf_lt_of_mem (List.getElem_mem _)
     generalize l[k]'(by omega)=v at hel hmem hst
     cases hel with
     | mk b off o k1 bo n t x l1 s hr hk1 hn ht hx hsl =>
      obtain⟨aoE,capE,rfl⟩:=LA.form6 hsl
      rw[sizeV]at hst
      have hm1:SizeOf.sizeOf l1<m:=by simp at hmem;omega
      have hdw:Below w0.heap.size w0 w0.drew:=below_drewN (Below.refl _ _) 1
      have hb0:=Hd (hb.out.trans (hdw.mono hb.out.size))
      have hcall:=ih.out w0.drew _ l1 hm1 (hsl.stay hdw) (by omega)
      have hsum:=size_sum (sizeL (l.take k)) t.size x.size (sizeL l1) (by omega) (by omega) (by omega)
      have hnx:sizeL (l.take k)+1+t.size / 64+x.size / 64+sizeL l1=sizeL (l.take (k+1)):=by omega
      rw[hnx]at hsum
      replace hcall:=Hd hcall
      replace hsum:=Hd hsum
      have hS0:Row6 w0.drew b (off+k * 6) k1 bo n t x (.slice aoE l1.length capE):=hr.below hdw
      clear hr hsl hmem hdw hst hsle hnx hm1
      go_upto_region 5 with fail
      refine wp_region_held_drew (S:=fun V=>Row6 V b (off+k * 6) k1 bo n t x (.slice aoE l1.length capE)) (by kernel_rfl) hS0 (fun hS=>?_)
      have hV:=hS0
      clear hS0
      generalize w0.drew=V0 at *
      refine tkH 0 ?_ rfl (fun w' hS=>?_) hS ?_
      rotate_left
      ·
       skip
       go_simp
       try with_reducible rfl
      refine tkH 1 ?_ rfl (fun w' hS=>?_) hS ?_
      rotate_left
      ·
       skip
       go_simp
       try with_reducible rfl
      refine tkH 2 ?_ rfl (fun w' hS=>?_) hS ?_
      rotate_left
      ·
       skip
       go_simp
       try with_reducible rfl
      refine tkH 3 ?_ rfl (fun w' hS=>?_) hS ?_
      rotate_left
      ·
       skip
       go_simp
       try with_reducible rfl
      refine tkH 4 ?_ rfl (fun w' hS=>?_) hS ?_
      rotate_left
      ·
       skip
       go_simp
       try with_reducible rfl
      refine tkH 5 ?_ rfl (fun w' hS=>?_) hS ?_
      rotate_left
      ·
       skip
       go_simp
       try with_reducible rfl
      refine tkH 6 ?_ rfl (fun w' hS=>?_) hS ?_
      rotate_left
      ·
       obtain⟨x0,x1,x2,x3,x4,x5⟩:=hS.six
       go_simp
       try with_reducible rfl
      refine tkH 7 ?_ rfl (fun w' hS=>?_) hS ?_
      rotate_left
      ·
       skip
       go_simp
       try with_reducible rfl
      refine tkH 8 ?_ rfl (fun w' hS=>?_) hS ?_
      rotate_left
      ·
       skip
       go_simp
       try with_reducible rfl
      refine tkH 9 ?_ rfl (fun w' hS=>?_) hS ?_
      rotate_left
      ·
       skip
       go_simp
       try with_reducible rfl
      refine tkH 10 ?_ rfl (fun w' hS=>?_) hS ?_
      rotate_left
      ·
       skip
       go_simp
       try with_reducible rfl
      refine tkH 11 ?_ rfl (fun w' hS=>?_) hS ?_
      rotate_left
      ·
       skip
       go_simp
       try with_reducible rfl
      refine tkH 12 ?_ rfl (fun w' hS=>?_) hS ?_
      rotate_left
      ·
       skip
       go_simp
       try with_reducible rfl
      refine tkH 13 ?_ rfl (fun w' hS=>?_) hS ?_
      rotate_left
      ·
       skip
       go_simp
       try with_reducible rfl
      refine tkH 14 ?_ rfl (fun w' hS=>?_) hS ?_
      rotate_left
      ·
       obtain⟨x0,x1,x2,x3,x4,x5⟩:=hS.six
       go_simp
       try with_reducible rfl
      refine tkH 15 ?_ rfl (fun w' hS=>?_) hS ?_
      rotate_left
      ·
       skip
       go_simp
       try with_reducible rfl
      refine tkH 16 ?_ rfl (fun w' hS=>?_) hS ?_
      rotate_left
      ·
       skip
       go_simp
       try with_reducible rfl
      refine tkH 17 ?_ rfl (fun w' hS=>?_) hS ?_
      rotate_left
      ·
       skip
       go_simp
       try with_reducible rfl
      refine tkH 18 ?_ rfl (fun w' hS=>?_) hS ?_
      rotate_left
      ·
       skip
       go_simp
       try with_reducible rfl
      refine tkH 19 ?_ rfl (fun w' hS=>?_) hS ?_
      rotate_left
      ·
       skip
       go_simp
       try with_reducible rfl
      refine tkH 20 ?_ rfl (fun w' hS=>?_) hS ?_
      rotate_left
      ·
       skip
       go_simp
       try with_reducible rfl
      refine tkH 21 ?_ rfl (fun w' hS=>?_) hS ?_
      rotate_left
      ·
       skip
       go_simp
       try with_reducible rfl
      refine tkH 22 ?_ rfl (fun w' hS=>?_) hS ?_
      rotate_left
      ·
       obtain⟨x0,x1,x2,x3,x4,x5⟩:=hS.six
       go_simp
       try with_reducible rfl
      refine rdH 23 rfl (fun K hK=>?_)
      clear hS
      go_simp
      refine(hcall.out).mono ?_
      rintro e w5 ⟨rfl,hb5⟩
      go_wp2_with fail
      refine hKo hK (hV.below hb5) (fun hS=>?_)
      clear hK K
      have hb3:=Hd (hb0.out.trans (hb5.mono hb0.out.size))
      refine tkH 24 ?_ rfl (fun w' hS=>?_) hS ?_
      rotate_left
      ·
       skip
       go_simp
       try with_reducible rfl
      refine tkH 25 ?_ rfl (fun w' hS=>?_) hS ?_
      rotate_left
      ·
       skip
       go_simp
       try with_reducible rfl
      refine wpAnyH_done (by kernel_rfl) ?_ _
      clear hS hb5 hcall hV hb0 hb
      go_wp2
      go_roundw
      case rel=>exact⟨k+1,by omega,by go_num,congrArg (Value.int .i64) hsum.out,hb3⟩
      case measure=>simp[intOf];omega
    ·have hki:¬(k:Int)<(l.length:Int):=by omega
     obtain rfl:k=l.length:=by omega
     go_wp2
     go_ret
     exact⟨ret_int (by first|rfl|rw[List.take_length]),hb.out⟩
end Go.Proofs.YtmpldjbdhbapbaaGreatDoor.val
