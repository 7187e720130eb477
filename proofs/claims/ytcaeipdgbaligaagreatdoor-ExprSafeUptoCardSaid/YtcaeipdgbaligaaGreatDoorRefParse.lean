/- Contract of the reference's parsed. -/
import Derived.Test.YtcaeipdgbaligaaGreatDoorDecInfo
import Derived.Deep.RegionLaw
import Derived.Deep.AppendLies
import Derived.Deep.OwnRows
set_option linter.unusedSimpArgs false
set_option linter.unusedVariables false
set_option maxRecDepth 100000
set_option maxHeartbeats 4000000
namespace Go.Proofs.YtcaeipdgbaligaaGreatDoor.dec
open Go.ChangeShapes Go.WideShapes Go.ChangeAt Go.RowKit kit
structure GW(w wr:World)(neg:Bool)(v:Value)(sc:Nat)(l:List Nat):Prop where
 below:Below w.heap.size w wr
 b0:Blk wr w.heap.size (numc false (.slice none 0 0) 0) 239
 b1:Blk wr (w.heap.size+1) (numc neg v sc) 239
 own:wr.ownsRow (w.heap.size+1+1) 3 1 v l.length (intsV l)
theorem GW.made(w:World):GW w ((w.alloc (.cells (numc false (.slice none 0 0) 0) 239)).alloc (.cells (numc false (.slice none 0 0) 0) 239)) false (.slice none 0 0) 0 []:=by
 refine⟨(((Keep.refl [] w).alloc _).alloc _).below,(Blk.new _ _ _).alloc _,?_,World.ownsRow_nil _ _ _ _⟩
 have:=Blk.new (w.alloc (.cells (numc false (.slice none 0 0) 0) 239)) (numc false (.slice none 0 0) 0) 239
 rwa [World.size_alloc]at this
theorem GW.neg{w wr:World}{neg:Bool}{v:Value}{sc:Nat}{l:List Nat}(h:GW w wr neg v sc l)(u:Bool):GW w (wr.setCell ⟨w.heap.size+1,0,none⟩ (.bool u)) u v sc l:=
 ⟨h.below.setCell (by show w.heap.size≤w.heap.size+1;omega) _,h.b0.set_other _ (by show w.heap.size≠w.heap.size+1;omega) _,h.b1.set 0 _,own_set h.own (Nat.lt_succ_self _) 0 _⟩
theorem GW.scale{w wr:World}{neg:Bool}{v:Value}{sc:Nat}{l:List Nat}(h:GW w wr neg v sc l)(u:Nat):GW w (wr.setCell ⟨w.heap.size+1,2,none⟩ (.int .i64 (u:Int))) neg v u l:=
 ⟨h.below.setCell (by show w.heap.size≤w.heap.size+1;omega) _,h.b0.set_other _ (by show w.heap.size≠w.heap.size+1;omega) _,h.b1.set 2 _,own_set h.own (Nat.lt_succ_self _) 2 _⟩
theorem GW.lt{w wr:World}{neg:Bool}{v:Value}{sc:Nat}{l:List Nat}(h:GW w wr neg v sc l):w.heap.size+1+1≤wr.heap.size:=h.b1.lt
theorem GW.drewN{w wr:World}{neg:Bool}{v:Value}{sc:Nat}{l:List Nat}(h:GW w wr neg v sc l)(n:Nat):GW w (wr.drewN n) neg v sc l:=⟨below_drewN h.below n,h.b0.drewN n,h.b1.drewN n,h.own⟩
theorem GW.push{w wr w3:World}{neg:Bool}{v v3:Value}{sc:Nat}{l m:List Nat}(h:GW w wr neg v sc l)(h1:w3.ownsRow (w.heap.size+1+1) 3 1 v3 (l.length+m.length) (intsV l++intsV m))(o:Obj)(h2:(wr.alloc o).grownBy w3 v.ownBlock):
 GW w (w3.setCell ⟨w.heap.size+1,1,none⟩ v3) neg v3 sc (l++m)∧Blk w3 (w.heap.size+1) (numc neg v sc) 239:=by
 have hlt:=h.lt
 have hk:∀k,v.ownBlock=some k→w.heap.size+1+1≤k:=fun k hk=>(h.own.lt k hk).1
 have hb1:Blk w3 (w.heap.size+1) (numc neg v sc) 239:=(h2.block (w.heap.size+1) (by rw[World.size_alloc];omega) (fun e=>by have:=hk _ e.symm;omega)).trans (h.b1.alloc o)
 have hb0:Blk w3 w.heap.size (numc false (.slice none 0 0) 0) 239:=(h2.block w.heap.size (by rw[World.size_alloc];omega) (fun e=>by have:=hk _ e.symm;omega)).trans (h.b0.alloc o)
 have ho:w3.ownsRow (w.heap.size+1+1) 3 1 v3 (l++m).length (intsV (l++m)):=by
  rw[List.length_append]
  simpa[intsV]using h1
 refine⟨⟨((h.below.alloc (by omega) o).grown h2 (by rw[World.size_alloc];omega) (fun k hk'=>by have:=hk k hk';omega)).setCell (by show w.heap.size≤w.heap.size+1;omega) _,hb0.set_other _ (by show w.heap.size≠w.heap.size+1;omega) _,hb1.set 1 _,own_set ho (Nat.lt_succ_self _) 1 _⟩,hb1⟩
theorem GW.fin{w wr:World}{neg:Bool}{v:Value}{sc:Nat}{l:List Nat}(h:GW w wr neg v sc l):
 Below w.heap.size w (((wr.setCell ⟨w.heap.size,0,none⟩ (.bool neg)).setCell ⟨w.heap.size,1,none⟩ v).setCell ⟨w.heap.size,2,none⟩ (.int .i64 (sc:Int))) ∧
 Blk (((wr.setCell ⟨w.heap.size,0,none⟩ (.bool neg)).setCell ⟨w.heap.size,1,none⟩ v).setCell ⟨w.heap.size,2,none⟩ (.int .i64 (sc:Int))) w.heap.size (numc neg v sc) 239 ∧
 IntsAt (((wr.setCell ⟨w.heap.size,0,none⟩ (.bool neg)).setCell ⟨w.heap.size,1,none⟩ v).setCell ⟨w.heap.size,2,none⟩ (.int .i64 (sc:Int))) v l:=by
 have hlt:w.heap.size<w.heap.size+1+1:=by omega
 exact⟨((h.below.setCell (p:=⟨w.heap.size,0,none⟩) (Nat.le_refl _) _).setCell (p:=⟨w.heap.size,1,none⟩) (Nat.le_refl _) _).setCell (p:=⟨w.heap.size,2,none⟩) (Nat.le_refl _) _,
  ((h.b0.set 0 _).set 1 _).set 2 _,own_ints (own_set (own_set (own_set h.own hlt 0 _) hlt 1 _) hlt 2 _)⟩
theorem first_pos{s:ByteArray}{c:UInt8}{r:List UInt8}(h:s.data.toList=c::r):0<s.size:=by
 have:=congrArg List.length h
 simp at this
 omega
theorem first_eq{s:ByteArray}{c:UInt8}{r:List UInt8}(h:s.data.toList=c::r)(h0:0<s.size):s[0].toNat=c.toNat:=by
 have:s[0]=c:=by
  show s.data[0]'h0=c
  rw[←Array.getElem_toList]
  simp[h]
 rw[this]
theorem tail_list{s:ByteArray}{c:UInt8}{r:List UInt8}(h:s.data.toList=c::r):(s.extract 1 (r.length+1)).data.toList=r∧(s.extract 1 (r.length+1)).size≤s.size:=by
 have hl:=congrArg List.length h
 simp at hl
 refine⟨?_,by rw[ByteArray.size_extract];omega⟩
 rw[ByteArray.data_extract,Array.toList_extract,h]
 simp
theorem first_tail{s:ByteArray}(h0:0<s.size):∃r,s.data.toList=s[0]::r∧s.size=r.length+1:=by
 cases hl:s.data.toList with
 |nil=>
  have:=congrArg List.length hl
  simp at this
  have h1:0<s.data.size:=h0
  simp[this]at h1
 | cons c r =>
  have:s[0]=c:=by
   show s.data[0]'h0=c
   rw[←Array.getElem_toList]
   simp[hl]
  refine⟨r,by rw[this],?_⟩
  have:=congrArg List.length hl
  simpa using this
theorem split_at{t:ByteArray}{r:List UInt8}(h:t.data.toList=r)(i:Nat)(hi:i<t.size):r=r.take i++t[i]::r.drop (i+1):=by
 have hl:i<r.length:=by rw[←h];simpa using hi
 have e:t[i]=r[i]:=by
  show t.data[i]'hi=r[i]
  rw[←Array.getElem_toList]
  simp[h]
 rw[e]
 have:=List.take_append_drop i r
 rw[List.drop_eq_getElem_cons hl]at this
 exact this.symm
theorem take_at{t:ByteArray}{r:List UInt8}(h:t.data.toList=r)(i:Nat)(hi:i<t.size):r.take (i+1)=r.take i++[t[i]]:=by
 have hl:i<r.length:=by rw[←h];simpa using hi
 have e:t[i]=r[i]:=by
  show t.data[i]'hi=r[i]
  rw[←Array.getElem_toList]
  simp[h]
 rw[e,List.take_add_one,List.getElem?_eq_getElem hl]
 rfl
theorem drop_at{t:ByteArray}{r:List UInt8}(h:t.data.toList=r)(i:Nat)(hi:i<t.size):r.drop i=t[i]::r.drop (i+1):=by
 have hl:i<r.length:=by rw[←h];simpa using hi
 have e:t[i]=r[i]:=by
  show t.data[i]'hi=r[i]
  rw[←Array.getElem_toList]
  simp[h]
 rw[e,List.drop_eq_getElem_cons hl]
theorem wrap48{n:Nat}(h:48≤n∧n≤57):IntKind.i64.wrap (IntKind.u8.wrap ((n:Int)-48))=((n-48:Nat):Int):=by
 have key:∀m:Fin 10,IntKind.i64.wrap (IntKind.u8.wrap ((m.val:Nat):Int))=(m.val:Int):=by decide
 have:=key ⟨n-48,by omega⟩
 rw[show(n:Int)-48=((n-48:Nat):Int) by omega]
 exact this
def ParseR(w:World)(o:Option (Bool×Nat×Nat))(L:Nat)(e:Ending)(w':World):Prop:=
 Below w.heap.size w w'∧match o with
 |none=>e=.returned (.tuple #[.agg (numc false (.slice none 0 0) 0),.bool false])
 |some (n,N,sc)=>∃v D,e=.returned (.tuple #[.agg (numc n v sc),.bool true])∧IntsAt w' v D∧dgs D∧vL D=N∧1≤D.length∧D.length≤L∧sc≤L∧(∀k,v.ownBlock=some k→w.heap.size≤k)
theorem parsed_big (s : ByteArray) (w : World) (hs : s.size ≤ 1048576) :
 Calls Tryz.prog 193 #[.string s] w (ParseR w (numP s.data.toList) s.size):=by
 obtain⟨o,ho⟩:∃o,numP s.data.toList=o:=⟨_,rfl⟩
 rw[ho]
 replace ho:=Hd ho
 obtain⟨i0,hi,hx⟩:=Option.map_eq_some_iff.1 infoInt
 simp only[Prod.mk.injEq]at hx
 obtain⟨hz0,hz1,hz2⟩:=hx
 replace hi:=Hd hi
 replace hz0:=Hd hz0
 replace hz1:=Hd hz1
 replace hz2:=Hd hz2
 go_enter Tryz.func193,Tryz.ntmps193
 go_upto_region 2 with(fail)
 have pw:GW w ((w.alloc (.cells #[.bool false,.slice none 0 0,.int .i64 0] 239)).alloc (.cells #[.bool false,.slice none 0 0,.int .i64 0] 239)) false (.slice none 0 0) 0 []:=GW.made w
 generalize ((w.alloc (.cells #[.bool false,.slice none 0 0,.int .i64 0] 239)).alloc (.cells #[.bool false,.slice none 0 0,.int .i64 0] 239))=W at *
 have n0:W.cell? ⟨w.heap.size+1,0,none⟩=some (.bool false):=pw.b1.cell 0 rfl
 have n1:W.cell? ⟨w.heap.size+1,1,none⟩=some (.slice none 0 0):=pw.b1.cell 1 rfl
 have n2:W.cell? ⟨w.heap.size+1,2,none⟩=some (.int .i64 0):=pw.b1.cell 2 rfl
 have f0:W.frozen? ⟨w.heap.size+1,0,none⟩=false:=pw.b1.free 0
 have f1:W.frozen? ⟨w.heap.size+1,1,none⟩=false:=pw.b1.free 1
 have f2:W.frozen? ⟨w.heap.size+1,2,none⟩=false:=pw.b1.free 2
 have p0:W.cell? ⟨w.heap.size,0,none⟩=some (.bool false):=pw.b0.cell 0 rfl
 have p1:W.cell? ⟨w.heap.size,1,none⟩=some (.slice none 0 0):=pw.b0.cell 1 rfl
 have p2:W.cell? ⟨w.heap.size,2,none⟩=some (.int .i64 0):=pw.b0.cell 2 rfl
 have q0:W.frozen? ⟨w.heap.size,0,none⟩=false:=pw.b0.free 0
 have q1:W.frozen? ⟨w.heap.size,1,none⟩=false:=pw.b0.free 1
 have q2:W.frozen? ⟨w.heap.size,2,none⟩=false:=pw.b0.free 2
 replace pw:=Hd pw
 obtain⟨q,hq⟩:∃q:Bool,decide (∃h:0<s.size,s[0].toNat=45∨s[0].toNat=43)=q:=⟨_,rfl⟩
 replace hq:=Hd hq
 go_cut [20] (fun v wx=>v=.bool q∧wx=W)
 case first =>
  as_aux_lemma=>
   by_cases h1:0<s.size
   ·have h1i:0<(s.size:Int):=by omega
    obtain⟨n,hn⟩:∃n,s[0].toNat=n:=⟨_,rfl⟩
    by_cases e1:n=45
    ·obtain rfl:true=q:=by rw[←hq.out];exact(decide_eq_true ⟨h1,.inl (hn.trans e1)⟩).symm
     subst e1
     go_wp2
     go_meet
     exact⟨rfl,rfl⟩
    ·have e1i:((n:Int)==45)=false:=beq_eq_false_iff_ne.2 (by omega)
     by_cases e2:n=43
     ·obtain rfl:true=q:=by rw[←hq.out];exact(decide_eq_true ⟨h1,.inr (hn.trans e2)⟩).symm
      subst e2
      go_wp2
      go_meet
      exact⟨rfl,rfl⟩
     ·have e2i:((n:Int)==43)=false:=beq_eq_false_iff_ne.2 (by omega)
      obtain rfl:false=q:=by rw[←hq.out];exact(decide_eq_false (fun⟨_,e⟩=>by rw[hn]at e;exact e.elim e1 e2)).symm
      go_wp2
      go_meet
      exact⟨rfl,rfl⟩
   ·have h1i:¬0<(s.size:Int):=by omega
    obtain rfl:false=q:=by rw[←hq.out];exact(decide_eq_false (fun⟨h,_⟩=>h1 h)).symm
    go_wp2
    go_meet
    exact⟨rfl,rfl⟩
 obtain⟨rfl,hwx⟩:=hcut
 rw[hwx];clear hwx
 go_upto_if 20 with(fail)
 go_cut [0] (fun v wx=>∃(t:ByteArray) (neg:Bool),v=.string t∧numT neg t.data.toList=o∧t.size≤s.size∧GW w wx neg (.slice none 0 0) 0 [])
 case first =>
  as_aux_lemma=>
   cases q
   case false=>
    have hq2:=of_decide_eq_false hq.out
    have hno:numT false s.data.toList=o:=by
     rw[←ho.out]
     refine(numP_other _ ?_ ?_).symm
     ·rintro⟨r,hr⟩
      exact hq2 ⟨first_pos hr,.inl (first_eq hr _)⟩
     ·rintro⟨r,hr⟩
      exact hq2 ⟨first_pos hr,.inr (first_eq hr _)⟩
    clear hq hq2
    replace hno:=Hd hno
    go_wp2
    go_meet
    exact⟨s,false,rfl,hno.out,Nat.le_refl _,pw.out⟩
   case true=>
    obtain⟨h1,hc⟩:=of_decide_eq_true hq.out
    have h1i:0<(s.size:Int):=by omega
    have h2i:(1:Int)≤(s.size:Int):=by omega
    obtain⟨n,hn⟩:∃n,s[0].toNat=n:=⟨_,rfl⟩
    rw[hn]at hc
    obtain⟨r,hr,hsz⟩:=first_tail h1
    have hn2:=Hd hn
    rcases hc with rfl|rfl
    ·clear hq
     go_wp2
     go_meet
     obtain⟨t1,t2⟩:=tail_list hr
     refine⟨_,true,rfl,?_,t2,pw.out.neg true⟩
     rw[t1,←ho.out,hr,show s[0]=45 from UInt8.toNat_inj.1 hn2.out]
     rfl
    ·clear hq
     go_wp2
     go_meet
     obtain⟨t1,t2⟩:=tail_list hr
     refine⟨_,false,rfl,?_,t2,pw.out.neg false⟩
     rw[t1,←ho.out,hr,show s[0]=43 from UInt8.toNat_inj.1 hn2.out]
     rfl
 obtain⟨t,neg,rfl,hno,hts,pw1⟩:=hcut
 clear n0 n1 n2 f0 f1 f2 p0 p1 p2 q0 q1 q2 hq ho pw
 obtain⟨wp,rfl⟩:∃wp:World,wp=wc:=⟨_,rfl⟩
 have n0:wp.cell? ⟨w.heap.size+1,0,none⟩=some (.bool neg):=pw1.b1.cell 0 rfl
 have n1:wp.cell? ⟨w.heap.size+1,1,none⟩=some (.slice none 0 0):=pw1.b1.cell 1 rfl
 have n2:wp.cell? ⟨w.heap.size+1,2,none⟩=some (.int .i64 0):=pw1.b1.cell 2 rfl
 have f0:wp.frozen? ⟨w.heap.size+1,0,none⟩=false:=pw1.b1.free 0
 have f1:wp.frozen? ⟨w.heap.size+1,1,none⟩=false:=pw1.b1.free 1
 have f2:wp.frozen? ⟨w.heap.size+1,2,none⟩=false:=pw1.b1.free 2
 have p0:wp.cell? ⟨w.heap.size,0,none⟩=some (.bool false):=pw1.b0.cell 0 rfl
 have p1:wp.cell? ⟨w.heap.size,1,none⟩=some (.slice none 0 0):=pw1.b0.cell 1 rfl
 have p2:wp.cell? ⟨w.heap.size,2,none⟩=some (.int .i64 0):=pw1.b0.cell 2 rfl
 have q0:wp.frozen? ⟨w.heap.size,0,none⟩=false:=pw1.b0.free 0
 have q1:wp.frozen? ⟨w.heap.size,1,none⟩=false:=pw1.b0.free 1
 have q2:wp.frozen? ⟨w.heap.size,2,none⟩=false:=pw1.b0.free 2
 obtain⟨r,hr⟩:∃r,t.data.toList=r:=⟨_,rfl⟩
 have hrl:r.length=t.size:=by rw[←hr];simp
 have hti:(t.size:Int)≤1048576:=by omega
 rw[hr]at hno
 replace hno:=Hd hno
 replace hr:=Hd hr
 replace hrl:=Hd hrl
 replace pw1:=Hd pw1
 go_wp2_with fail
 go_loop [5,6] (fun v5 v6=>∃(i:Nat) (pt:Int),i≤t.size∧v6=.int .i64 i∧v5=.int .i64 pt∧Hid (PS (r.take i) pt)) (fun _ v6=>t.size-(intOf v6).toNat)
 case atStart=>exact⟨0,-1,by omega,rfl,rfl,.inl ⟨rfl,rfl⟩⟩
 case round =>
  obtain⟨i,pt,hit,rfl,rfl,hP⟩:=hrel
  have hpt:-1≤pt∧pt≤(i:Int):=by
   rcases hP.out with⟨h1,_⟩|⟨W,P,h1,h2,_⟩
   ·omega
   ·have:=congrArg List.length h2
    rw[List.length_take,List.length_append]at this
    omega
  have hii:(i:Int)≤1048576:=by omega
  by_cases hil:i<t.size
  ·have hili:(i:Int)<(t.size:Int):=by omega
   obtain⟨n,hn⟩:∃n,(t[i]'hil).toNat=n:=⟨_,rfl⟩
   have hn256:n<256:=by rw[←hn];exact(t[i]'hil).toNat_lt
   have hsp:=split_at hr.out i hil
   have htk:=take_at hr.out i hil
   have hc:=Hd hn
   obtain⟨q,hq⟩:∃q:Bool,decide (n=46∧pt<0)=q:=⟨_,rfl⟩
   replace hq:=Hd hq
   replace hsp:=Hd hsp
   replace htk:=Hd htk
   go_upto_region 9 with(fail)
   go_cut [40] (fun v wx=>v=.bool q∧wx=wp)
   case first=>
    as_aux_lemma=>
     by_cases e1:n=46
     ·have e1i:((n:Int)==46)=true:=by rw[e1];rfl
      by_cases e2:pt<0
      ·obtain rfl:true=q:=by rw[←hq.out];exact(decide_eq_true ⟨e1,e2⟩).symm
       go_wp2
       go_meet
       exact⟨rfl,rfl⟩
      ·obtain rfl:false=q:=by rw[←hq.out];exact(decide_eq_false (fun e=>e2 e.2)).symm
       go_wp2
       go_meet
       exact⟨rfl,rfl⟩
     ·have e1i:((n:Int)==46)=false:=beq_eq_false_iff_ne.2 (by omega)
      obtain rfl:false=q:=by rw[←hq.out];exact(decide_eq_false (fun e=>e1 e.1)).symm
      go_wp2
      go_meet
      exact⟨rfl,rfl⟩
   obtain⟨rfl,hwx⟩:=hcut
   rw[hwx];clear hwx
   cases q
   case true=>
    have hq2:=of_decide_eq_true hq.out
    have hP2:PS (r.take (i+1)) (i:Int):=by
     rw[htk.out,show t[i]'hil=46 from UInt8.toNat_inj.1 (hc.out.trans hq2.1)]
     have h3:pt=-1:=by omega
     have h4:=hP.out
     rw[h3]at h4
     have h5:=h4.dot
     rwa [List.length_take,hrl.out,Nat.min_eq_left (by omega)]at h5
    replace hP2:=Hd hP2
    clear hq hq2 hn
    go_wp2
    refine⟨⟨i+1,(i:Int),by omega,congrArg _ (by omega),rfl,hP2⟩,?_⟩
    simp only[intOf]
    omega
   case false=>
    have hq2:=of_decide_eq_false hq.out
    by_cases hd:48≤n∧n≤57
    ·have hP2:PS (r.take (i+1)) pt:=by
      rw[htk.out]
      refine hP.out.digit ?_
      unfold isD
      rw[hc.out]
      exact decide_eq_true hd
     have hdg:=digit_any n wp hn256
     rw[decide_eq_true hd]at hdg
     replace hP2:=Hd hP2
     replace hdg:=Hd hdg
     clear hq hq2 hd
     go_wp2_with (go_at_call 207;refine hdg.out.mono ?_;rintro e w2 ⟨rfl,rfl⟩)
     refine⟨⟨i+1,pt,by omega,congrArg _ (by omega),rfl,hP2⟩,?_⟩
     simp only[intOf]
     omega
    ·have hbad:o=none:=by
      rw[←hno.out,hsp.out]
      refine hP.out.bad ?_ (fun e=>hq2 ⟨?_,by omega⟩) _ _
      ·unfold isD
       rw[hc.out]
       exact decide_eq_false hd
      ·rw[←hc.out,e.1];rfl
     obtain rfl:=hbad
     have hdg:=digit_any n wp hn256
     rw[decide_eq_false hd]at hdg
     replace hdg:=Hd hdg
     clear hq hq2 hd
     go_wp2_with (go_at_call 207;refine hdg.out.mono ?_;rintro e wp ⟨rfl,rfl⟩)
     have r0:=Hd (((pw1.out.b0.set 0 (.bool false)).set 1 (.slice none 0 0)).set 2 (.int .i64 0))
     have rb:=Hd (((pw1.out.below.setCell (p:=⟨w.heap.size,0,none⟩) (Nat.le_refl _) (.bool false)).setCell (p:=⟨w.heap.size,1,none⟩) (Nat.le_refl _) (.slice none 0 0)).setCell (p:=⟨w.heap.size,2,none⟩) (Nat.le_refl _) (.int .i64 0))
     exact bodyPost_ret (v:=.tuple #[.agg (numc false (.slice none 0 0) 0),.bool false]) (res2 rfl _ _ w.heap.size 239 _ (0,0) _ _ rfl rfl r0.out.eq Tryz.underlying239 rfl infoNum) rfl ⟨rb.out,rfl⟩
  ·have hili : ¬ (i : Int) < (t.size : Int) := by omega
   have hie:i=r.length:=by rw[hrl.out];omega
   have hend:=hP.out
   rw[hie,List.take_length]at hend
   have hend2:=hend.end neg
   rw[hno.out]at hend2
   obtain⟨q,hq⟩:∃q:Bool,decide (r.length=0∨pt=0∨pt=(r.length:Int)-1)=q:=⟨_,rfl⟩
   have hrli:(r.length:Int)=(t.size:Int):=by have:=hrl.out;omega
   rw[hrli]at hq
   have hrl2:=hrl.out
   clear hend hP hie
   replace hq:=Hd hq
   replace hend2:=Hd hend2
   replace hrli:=Hd hrli
   replace hrl2:=Hd hrl2
   go_upto_region 13 with(fail)
   go_cut [61] (fun v wx=>v=.bool q∧wx=wp)
   case first =>
    as_aux_lemma=>
     by_cases e1:t.size=0
     ·have e1i:(t.size:Int)=0:=by omega
      obtain rfl:true=q:=by rw[←hq.out];exact(decide_eq_true (.inl (by rw[hrl2.out];exact e1))).symm
      go_wp2
      go_meet
      exact⟨rfl,rfl⟩
     ·have e1i:((t.size:Int)==0)=false:=beq_eq_false_iff_ne.2 (by omega)
      by_cases e2:pt=0
      ·obtain rfl:true=q:=by rw[←hq.out];exact(decide_eq_true (.inr (.inl e2))).symm
       subst e2
       go_wp2
       go_meet
       exact⟨rfl,rfl⟩
      ·have e2i:(pt==0)=false:=beq_eq_false_iff_ne.2 e2
       by_cases e3:pt=(t.size:Int)-1
       ·obtain rfl:true=q:=by rw[←hq.out];exact(decide_eq_true (.inr (.inr e3))).symm
        have e3i:(pt==(t.size:Int)-1)=true:=by rw[e3];exact beq_self_eq_true _
        clear e3
        go_wp2
        go_meet
        exact⟨rfl,rfl⟩
       ·obtain rfl:false=q:=by rw[←hq.out];exact(decide_eq_false (fun e=>e.elim (fun e=>e1 (by rw[←hrl2.out];exact e)) (fun e=>e.elim e2 e3))).symm
        have e3i:(pt==(t.size:Int)-1)=false:=beq_eq_false_iff_ne.2 e3
        go_wp2
        go_meet
        exact⟨rfl,rfl⟩
   obtain⟨rfl,hwx⟩:=hcut
   rw[hwx];clear hwx
   cases q
   case true=>
    have hq2:=of_decide_eq_true hq.out
    rw[←hrli.out]at hq2
    rcases hend2.out with⟨_,rfl⟩|⟨h1,_⟩
    ·clear hq hq2 hend2
     go_wp2_with fail
     have r0:=Hd (((pw1.out.b0.set 0 (.bool false)).set 1 (.slice none 0 0)).set 2 (.int .i64 0))
     have rb:=Hd (((pw1.out.below.setCell (p:=⟨w.heap.size,0,none⟩) (Nat.le_refl _) (.bool false)).setCell (p:=⟨w.heap.size,1,none⟩) (Nat.le_refl _) (.slice none 0 0)).setCell (p:=⟨w.heap.size,2,none⟩) (Nat.le_refl _) (.int .i64 0))
     exact bodyPost_ret (v:=.tuple #[.agg (numc false (.slice none 0 0) 0),.bool false]) (res2 rfl _ _ w.heap.size 239 _ (0,0) _ _ rfl rfl r0.out.eq Tryz.underlying239 rfl infoNum) rfl ⟨rb.out,rfl⟩
    ·exact absurd hq2 h1
   case false =>
    have hq2:=of_decide_eq_false hq.out
    rw[←hrli.out]at hq2
    rcases hend2.out with⟨h1,_⟩|⟨_,ho2,hpl,hfl,had⟩
    ·exact absurd h1 hq2
    ·obtain⟨sc,hsc⟩:∃sc,(if 0≤pt then r.length-1-pt.toNat else 0)=sc:=⟨_,rfl⟩
     rw[hsc]at ho2
     obtain rfl:=ho2
     replace hsc:=Hd hsc
     clear hq hq2 hend2
     replace hpl:=Hd hpl
     replace hfl:=Hd hfl
     replace had:=Hd had
     clear n0 n1 n2 f0 f1 f2 p0 p1 p2 q0 q1 q2
     go_wp2_with fail
     go_loopw [7] (fun v7 wr=>∃(k:Nat) (v:Value),k≤t.size∧v7=.int .i64 ((k:Int)-1)∧Hid (GW w wr neg v 0 (digL (r.drop k)))) (fun v7 _=>(intOf v7+1).toNat)
     case atStart=>
      refine⟨t.size,.slice none 0 0,Nat.le_refl _,rfl,?_⟩
      rw[←hrl2.out,List.drop_length]
      exact pw1
     case round =>
      obtain⟨k1,v,hk1,rfl,hG⟩:=hrel
      obtain⟨wo,rfl⟩:∃wo:World,wo=wr:=⟨_,rfl⟩
      have n0:wo.cell? ⟨w.heap.size+1,0,none⟩=some (.bool neg):=hG.out.b1.cell 0 rfl
      have n1:wo.cell? ⟨w.heap.size+1,1,none⟩=some (v):=hG.out.b1.cell 1 rfl
      have n2:wo.cell? ⟨w.heap.size+1,2,none⟩=some (.int .i64 0):=hG.out.b1.cell 2 rfl
      have f0:wo.frozen? ⟨w.heap.size+1,0,none⟩=false:=hG.out.b1.free 0
      have f1:wo.frozen? ⟨w.heap.size+1,1,none⟩=false:=hG.out.b1.free 1
      have f2:wo.frozen? ⟨w.heap.size+1,2,none⟩=false:=hG.out.b1.free 2
      have p0:wo.cell? ⟨w.heap.size,0,none⟩=some (.bool false):=hG.out.b0.cell 0 rfl
      have p1:wo.cell? ⟨w.heap.size,1,none⟩=some (.slice none 0 0):=hG.out.b0.cell 1 rfl
      have p2:wo.cell? ⟨w.heap.size,2,none⟩=some (.int .i64 0):=hG.out.b0.cell 2 rfl
      have q0:wo.frozen? ⟨w.heap.size,0,none⟩=false:=hG.out.b0.free 0
      have q1:wo.frozen? ⟨w.heap.size,1,none⟩=false:=hG.out.b0.free 1
      have q2:wo.frozen? ⟨w.heap.size,2,none⟩=false:=hG.out.b0.free 2
      obtain⟨Lk,hLk⟩:∃Lk,digL (r.drop k1)=Lk:=⟨_,rfl⟩
      have hLk2:=Hd hLk
      rw[hLk]at hG
      have hLl:Lk.length≤1048576:=by rw[←hLk];have:=digL_le (r.drop k1);rw[List.length_drop]at this;have:=hrl.out;omega
      obtain⟨vo,vc,rfl⟩:=(own_ints hG.out.own).form
      clear hLk
      by_cases h0:k1=0
      ·subst h0
       have hL0:digL r=Lk:=hLk2.out
       have hv1:vL Lk=val (r.filter (· != 46)):=by rw[←hL0];exact digL_val r
       have hv2:dgs Lk:=by rw[←hL0];exact digL_dgs had.out
       have hv3:1≤Lk.length:=by rw[←hL0,digL_length];exact hfl.out
       have hv4:Lk.length≤s.size:=by have:=digL_le r;rw[hL0,hrl.out]at this;omega
       have hv5:sc≤s.size:=by
        rw[←hsc.out]
        have:=hrl.out
        split<;>omega
       have hlo:Hid (∀k,(Value.slice vo Lk.length vc).ownBlock=some k→w.heap.size≤k):=fun k hk=>by have:=(hG.out.own.lt k hk).1;omega
       replace hv1:=Hd hv1
       replace hv2:=Hd hv2
       by_cases hp0:0≤pt
       ·have hp1:=hpl.out hp0
        have hsci:(t.size:Int)-1-pt=(sc:Int):=by
         have h1:=hrl.out
         have h2:=hsc.out
         rw[if_pos hp0]at h2
         omega
        obtain⟨rb,r0,ri⟩:=(hG.out.scale sc).fin
        replace rb:=Hd rb
        replace r0:=Hd r0
        replace ri:=Hd ri
        clear hG hLk2
        go_wp2_with fail
        exact bodyPost_ret (v:=.tuple #[.agg (numc neg (.slice vo Lk.length vc) _),.bool true]) (res2 rfl _ _ w.heap.size 239 _ (0,0) _ _ rfl rfl r0.out.eq Tryz.underlying239 rfl infoNum) rfl ⟨rb.out,_,Lk,rfl,ri.out,hv2.out,hv1.out,hv3,hv4,hv5,hlo.out⟩
       ·obtain rfl:0=sc:=by have h2:=hsc.out;rw[if_neg hp0]at h2;exact h2
        obtain⟨rb,r0,ri⟩:=hG.out.fin
        replace rb:=Hd rb
        replace r0:=Hd r0
        replace ri:=Hd ri
        clear hG hLk2
        go_wp2_with fail
        exact bodyPost_ret (v:=.tuple #[.agg (numc neg (.slice vo Lk.length vc) _),.bool true]) (res2 rfl _ _ w.heap.size 239 _ (0,0) _ _ rfl rfl r0.out.eq Tryz.underlying239 rfl infoNum) rfl ⟨rb.out,_,Lk,rfl,ri.out,hv2.out,hv1.out,hv3,hv4,hv5,hlo.out⟩
      ·obtain⟨k,rfl⟩:∃k,k1=k+1:=⟨k1-1,by omega⟩
       rw[show(((k+1:Nat):Int)-1)=(k:Int) by omega]
       have hkt:k<t.size:=by omega
       have hkti:(k:Int)<(t.size:Int):=by omega
       obtain⟨n,hn⟩:∃n,(t[k]'hkt).toNat=n:=⟨_,rfl⟩
       have hdr:=drop_at hr.out k hkt
       have hc:=Hd hn
       by_cases e1:n=46
       ·have hL2:digL (r.drop k)=Lk:=by rw[hdr,show t[k]'hkt=46 from UInt8.toNat_inj.1 (hc.out.trans e1),digL_dot];exact hLk2.out
        subst e1
        replace hL2:=Hd hL2
        replace hdr:=Hd hdr
        clear hLk2
        go_wp2
        refine⟨⟨k,.slice vo Lk.length vc,by omega,rfl,?_⟩,?_⟩
        ·rw[hL2.out];exact hG
        ·simp only[intOf]
         omega
       ·have e1i:((n:Int) != 46)=true:=by simp only[bne_iff_ne,ne_eq];omega
        have hc46:t[k]'hkt≠46:=fun e=>e1 (by rw[←hc.out,e];rfl)
        have hL2:digL (r.drop k)=Lk++[dv (t[k]'hkt)]:=by rw[hdr,digL_cons hc46];rw[hLk2.out]
        have hmem:t[k]'hkt∈r.filter (· != 46):=by
         rw[List.mem_filter]
         refine⟨List.mem_of_mem_drop (i:=k) (by rw[hdr];simp),by simpa using hc46⟩
        have hisd:=allD_mem had.out hmem
        unfold isD at hisd
        rw[hc.out]at hisd
        have hd:=of_decide_eq_true hisd
        have hdv:dv (t[k]'hkt)=n-48:=by unfold dv;rw[hc.out]
        rw[hdv]at hL2
        have hni:(n:Int)-48=((n-48:Nat):Int):=by omega
        have hd1:(48:Int)≤(n:Int):=by omega
        have hd2:(n:Int)≤57:=by omega
        replace hL2:=Hd hL2
        replace hdr:=Hd hdr
        replace hni:=Hd hni
        clear hLk2 hdv hisd hmem
        have hwr:Hid (IntKind.i64.wrap (IntKind.u8.wrap ((n:Int)-48))=((n-48:Nat):Int)):=wrap48 hd
        have hown:=hG.out.own
        have hLm:Lk.length+1≤maxLen:=by simp only[maxLen];omega
        have hLb:(Lk.length+1) * 8≤140737488355328:=by omega
        have hbs:=hG.out.lt
        have kn1:∀o:Obj,(wo.alloc o).cell? ⟨w.heap.size+1,1,none⟩=some (.slice vo Lk.length vc):=fun o=>(((Below.refl wo.heap.size wo).alloc (Nat.le_refl _) o).cell (p:=⟨w.heap.size+1,1,none⟩) (by show w.heap.size+1<wo.heap.size;omega)).trans n1
        replace hown:=Hd hown
        clear hLl
        go_wp2_with fail
        go_region_law (refine step_append_lies _ rfl (.tmp 75) (.tmp 81) 138 rfl (w.heap.size+1+1) 3 i0 (.int .i64 0) 1 8 Tryz.underlying138 hi.out hz0.out hz1.out hz2.out rfl (by decide) _ Lk.length (intsV Lk) rfl ?_ _ 1 1 [.int .i64 (IntKind.i64.wrap (IntKind.u8.wrap ((n:Int)-48)))] rfl rfl ?_ ?_ (by decide) hLm hLb ?_ _ rfl ?_;exact World.ownsRow.drew (hown.out.alloc _);exact newsI_one _ _ _;simp[Value.oneCell'];exact Nat.le_trans hbs (by show wo.heap.size≤(wo.alloc _).heap.size;rw[World.size_alloc];omega);intro g cap w3 ho hg _ _;rw[hwr.out]at ho;obtain⟨hP3,hB3⟩:=hG.out.push (m:=[n-48]) ho _ ⟨hg.os,hg.tape,hg.output,hg.size,hg.block⟩;have m1:w3.cell? ⟨w.heap.size+1,1,none⟩=some (.slice vo Lk.length vc):=hB3.cell 1 rfl;have m2:w3.frozen? ⟨w.heap.size+1,1,none⟩=false:=hB3.free 1;replace hP3:=Hd hP3;clear ho hg hB3)
        all_goals
         clear n0 n1 n2 f0 f1 f2 p0 p1 p2 q0 q1 q2 kn1 m1 m2
         go_wp2
         refine⟨⟨k,.slice (some ⟨g,0,none⟩) (Lk.length+1) cap,by omega,rfl,?_⟩,?_⟩
         ·rw[hL2.out];exact hP3
         ·simp only[intOf]
          omega
end Go.Proofs.YtcaeipdgbaligaaGreatDoor.dec
