/- Texts RefReadP, RefForm, RefParse, RefRead, one behind the other. -/
import Derived.Test.YtmpldjbdhbapbaaGreatDoorRefA
import Derived.Deep.RegionLaw
import Derived.Deep.AppendLies
import Derived.Deep.OwnRows
set_option linter.unusedSimpArgs false
set_option linter.unusedVariables false
set_option maxRecDepth 100000
set_option maxHeartbeats 4000000
namespace Go.Proofs.YtmpldjbdhbapbaaGreatDoor.dec
def numT(neg:Bool)(r:List UInt8):Option (Bool×Nat×Nat):=
 if numB (Lib.cut r [46]).1&&(!(Lib.cut r [46]).2.2||numB (Lib.cut r [46]).2.1) then some (neg,val ((Lib.cut r [46]).1++(Lib.cut r [46]).2.1),(Lib.cut r [46]).2.1.length) else none
def numP(l:List UInt8):Option (Bool×Nat×Nat):=match l with
 |45::r=>numT true r
 |43::r=>numT false r
 |l=>numT false l
def readN:Option (Bool×Nat×Nat)→List UInt8×Int
 |some (n,N,sc)=>toldP n N sc
 |none=>([],6)
theorem readT_num(neg:Bool)(r:List UInt8):readT neg r=readN (numT neg r):=by
 unfold readT numT
 split<;>rfl
theorem numP_other(l:List UInt8)(h1:¬∃r,l=45::r)(h2:¬∃r,l=43::r):numP l=numT false l:=by
 unfold numP
 split
 ·rename_i r;exact absurd ⟨r,rfl⟩ h1
 ·rename_i r;exact absurd ⟨r,rfl⟩ h2
 ·rfl
theorem readP_num(l:List UInt8):readP l=readN (numP l):=by
 by_cases h1:∃r,l=45::r
 ·obtain⟨r,rfl⟩:=h1;exact readT_num true r
 ·by_cases h2:∃r,l=43::r
  ·obtain⟨r,rfl⟩:=h2;exact readT_num false r
  ·rw[readP_other l h1 h2,numP_other l h1 h2,readT_num]
theorem index_out(W P:List UInt8)(h:46∉W):Lib.index (W++46::P) [46]=(W.length:Int):=by
 induction W with
 |nil=>simp[Lib.index,List.isPrefixOf]
 |cons c W ih=>
  have hc:c≠46:=by intro e;subst e;exact h (by simp)
  have hp:[46].isPrefixOf (c::(W++46::P))=false:=by simp[List.isPrefixOf];exact fun e=>hc e.symm
  rw[List.cons_append,Lib.index,ih (fun e=>h (by simp[e])),hp]
  have:((W.length:Int)==-1)=false:=by simp
  simp[this]
theorem index_none(R:List UInt8)(h:46∉R):Lib.index R [46]=-1:=by
 induction R with
 |nil=>simp[Lib.index]
 |cons c W ih=>
  have hc:c≠46:=by intro e;subst e;exact h (by simp)
  have hp:[46].isPrefixOf (c::W)=false:=by simp[List.isPrefixOf];exact fun e=>hc e.symm
  rw[Lib.index,ih (fun e=>h (by simp[e])),hp]
  simp
theorem cut_out(W P:List UInt8)(h:46∉W):Lib.cut (W++46::P) [46]=(W,P,true):=by
 unfold Lib.cut
 rw[index_out W P h,if_pos (by omega)]
 simp
theorem cut_none(R:List UInt8)(h:46∉R):Lib.cut R [46]=(R,[],false):=by
 unfold Lib.cut
 rw[index_none R h,if_neg (by decide)]
theorem allD_mem{l:List UInt8}(h:allD l=true){c:UInt8}(hc:c∈l):isD c=true:=List.all_eq_true.1 h c hc
theorem allD_dot{l:List UInt8}(h:allD l=true):46∉l:=fun e=>absurd (allD_mem h e) (by decide)
theorem numB_not{l:List UInt8}{c:UInt8}(hc:c∈l)(h:isD c=false):numB l=false:=by
 cases hb:numB l with
 |false=>rfl
 |true=>rw[allD_mem (numB_all hb) hc]at h;cases h
def PS(l:List UInt8)(pt:Int):Prop:=(pt=-1∧allD l=true)∨∃W P,pt=(W.length:Int)∧l=W++46::P∧allD W=true∧allD P=true
theorem PS.digit{l:List UInt8}{pt:Int}(h:PS l pt){c:UInt8}(hc:isD c=true):PS (l++[c]) pt:=by
 rcases h with⟨h1,h2⟩|⟨W,P,h1,h2,h3,h4⟩
 ·exact .inl ⟨h1,by rw[allD_append,h2,allD_cons,hc];rfl⟩
 ·refine .inr ⟨W,P++[c],h1,by rw[h2];simp,h3,by rw[allD_append,h4,allD_cons,hc];rfl⟩
theorem PS.dot{l:List UInt8}(h:PS l (-1)):PS (l++[46]) (l.length:Int):=by
 rcases h with⟨_,h2⟩|⟨W,P,h1,_⟩
 ·exact .inr ⟨l,[],rfl,rfl,h2,rfl⟩
 ·omega
theorem PS.bad{l:List UInt8}{pt:Int}(h:PS l pt){c:UInt8}(hc:isD c=false)(hd:¬(c=46∧pt=-1))(neg:Bool)(rest:List UInt8):numT neg (l++c::rest)=none:=by
 rcases h with⟨h1,h2⟩|⟨W,P,h1,h2,h3,h4⟩
 ·have h46:c≠46:=fun e=>hd ⟨e,h1⟩
  have hl:=allD_dot h2
  by_cases hr:46∈rest
  ·obtain⟨R1,R2,hR,hn⟩:=List.eq_append_cons_of_mem hr
   have e:l++c::rest=(l++c::R1)++46::R2:=by rw[hR];simp
   have hn':46∉l++c::R1:=by
    simp only[List.mem_append,List.mem_cons,not_or]
    exact⟨hl,fun e=>h46 e.symm,hn⟩
   unfold numT
   rw[e,cut_out _ _ hn',numB_not (c:=c) (by simp) hc]
   rfl
  ·have hn':46∉l++c::rest:=by
    simp only[List.mem_append,List.mem_cons,not_or]
    exact⟨hl,fun e=>h46 e.symm,hr⟩
   unfold numT
   rw[cut_none _ hn',numB_not (c:=c) (by simp) hc]
   rfl
 ·have e:l++c::rest=W++46::(P++c::rest):=by rw[h2];simp
  unfold numT
  rw[e,cut_out _ _ (allD_dot h3),numB_not (l:=P++c::rest) (c:=c) (by simp) hc]
  simp
theorem PS.end{r:List UInt8}{pt:Int}(h:PS r pt)(neg:Bool):
 ((r.length=0∨pt=0∨pt=(r.length:Int)-1)∧numT neg r=none) ∨
 (¬(r.length=0∨pt=0∨pt=(r.length:Int)-1)∧numT neg r=some (neg,val (r.filter (· != 46)),if 0≤pt then r.length-1-pt.toNat else 0)∧(0≤pt→pt<(r.length:Int))∧1≤(r.filter (· != 46)).length∧allD (r.filter (· != 46))=true):=by
 have hf:∀l:List UInt8,allD l=true→l.filter (· != 46)=l:=fun l hl=>by
  rw[List.filter_eq_self]
  intro a ha
  have:=allD_mem hl ha
  simp only[bne_iff_ne,ne_eq]
  intro e;subst e;exact absurd this (by decide)
 rcases h with⟨h1,h2⟩|⟨W,P,h1,h2,h3,h4⟩
 ·subst h1
  by_cases hr:r=[]
  ·subst hr
   exact .inl ⟨.inl rfl,by unfold numT;rw[cut_none _ (by simp)];rfl⟩
  ·right
   have hlen:1≤r.length:=by cases r with|nil=>exact absurd rfl hr|cons a l=>simp
   have hnb:numB r=true:=by unfold numB;rw[h2];cases r with|nil=>exact absurd rfl hr|cons a l=>rfl
   refine⟨by omega,?_,by omega,by rw[hf r h2];exact hlen,by rw[hf r h2];exact h2⟩
   unfold numT
   rw[cut_none _ (allD_dot h2),hf r h2]
   simp[hnb]
 ·subst h2
  have hfl:(W++46::P).filter (· != 46)=W++P:=by
   rw[List.filter_append,hf W h3,List.filter_cons_of_neg (by decide),hf P h4]
  have hcut:=cut_out W P (allD_dot h3)
  rw[hfl,List.length_append,List.length_cons]
  by_cases hw:W=[]
  ·subst hw
   exact .inl ⟨.inr (.inl (by simpa using h1)),by unfold numT;rw[hcut];rfl⟩
  ·by_cases hp:P=[]
   ·subst hp
    exact .inl ⟨.inr (.inr (by simp;omega)),by unfold numT;rw[hcut];simp[numB]⟩
   ·have lW:1≤W.length:=by cases W with|nil=>exact absurd rfl hw|cons a l=>simp
    have lP:1≤P.length:=by cases P with|nil=>exact absurd rfl hp|cons a l=>simp
    have nW:numB W=true:=by unfold numB;rw[h3];cases W with|nil=>exact absurd rfl hw|cons a l=>rfl
    have nP:numB P=true:=by unfold numB;rw[h4];cases P with|nil=>exact absurd rfl hp|cons a l=>rfl
    right
    refine⟨by omega,?_,by omega,by rw[List.length_append];omega,by rw[allD_append,h3,h4];rfl⟩
    have e:(if 0≤pt then W.length+(P.length+1)-1-pt.toNat else 0)=P.length:=by rw[if_pos (by omega),h1];omega
    rw[e]
    unfold numT
    rw[hcut]
    simp[nW,nP]
def digL(l:List UInt8):List Nat:=((l.filter (· != 46)).map dv).reverse
theorem digL_dot(l:List UInt8):digL (46::l)=digL l:=by unfold digL;rw[List.filter_cons_of_neg (by decide)]
theorem digL_cons{c:UInt8}(h:c≠46)(l:List UInt8):digL (c::l)=digL l++[dv c]:=by
 unfold digL;rw[List.filter_cons_of_pos (by simpa using h),List.map_cons,List.reverse_cons]
theorem vL_rev(l:List UInt8):vL ((l.map dv).reverse)=val l:=by
 induction l with
 |nil=>rfl
 |cons c r ih=>rw[List.map_cons,List.reverse_cons,vL_append,ih,List.length_reverse,List.length_map,val_cons];simp[vL];rw[Nat.mul_comm,Nat.add_comm]
theorem digL_val(l:List UInt8):vL (digL l)=val (l.filter (· != 46)):=vL_rev _
theorem digL_length(l:List UInt8):(digL l).length=(l.filter (· != 46)).length:=by unfold digL;simp
theorem digL_le(l:List UInt8):(digL l).length≤l.length:=by rw[digL_length];exact List.length_filter_le _ _
theorem digL_dgs{l:List UInt8}(h:allD (l.filter (· != 46))=true):dgs (digL l):=by
 intro d hd
 unfold digL at hd
 rw[List.mem_reverse,List.mem_map]at hd
 obtain⟨c,hc,rfl⟩:=hd
 exact dv_lt (allD_mem h hc)
open Go.ChangeShapes Go.WideShapes Go.ChangeAt Go.RowKit kit
theorem rform_any (neg : Bool) (va : Value) (D : List Nat) (sc : Nat) (w : World) (hva : IntsAt w va D) (hD : dgs D) (hn : 1 ≤ D.length) (hl : D.length ≤ 2000000) (hsc : sc ≤ 2000000) :
 Calls Tryz.prog 105 #[.agg #[.bool neg,va,.int .i64 sc]] w fun e w'=>e=.returned (rv (toldP neg (vL D) sc))∧Below w.heap.size w w':=by
 rcases hva with⟨rfl,rfl⟩|⟨b,off,cap,rfl,hlt,hc⟩
 ·simp at hn
 go_enter Tryz.func105,Tryz.ntmps105
 go_upto_region 1 with(fail)
 obtain⟨W,hW⟩:∃W,W=w.alloc (.cells #[.bool neg,.slice (some ⟨b,off,none⟩) D.length cap,.int .i64 sc] 181):=⟨_,rfl⟩
 have hbw:Below w.heap.size w W:=by rw[hW];exact(Below.refl _ _).alloc (Nat.le_refl _) _
 have c0:W.cell? ⟨w.heap.size,0,none⟩=some (.bool neg):=by rw[hW,World.cell?_alloc_new];rfl
 have c1:W.cell? ⟨w.heap.size,1,none⟩=some (.slice (some ⟨b,off,none⟩) D.length cap):=by rw[hW,World.cell?_alloc_new];rfl
 have c2:W.cell? ⟨w.heap.size,2,none⟩=some (.int .i64 sc):=by rw[hW,World.cell?_alloc_new];rfl
 have hDW:IntsAt W (.slice (some ⟨b,off,none⟩) D.length cap) D:=IntsAt.below (.inr ⟨b,off,cap,rfl,hlt,hc⟩) hbw
 have hcl:=Hd fun(j:Nat) (hj:j<D.length)=>(hbw.cell (p:=⟨b,off+j,none⟩) hlt).trans (hc j hj)
 have hWs:w.heap.size<W.heap.size:=by rw[hW,World.size_alloc];omega
 rw[←hW]
 clear hW hc
 have sci:(sc:Int)≤2000000:=by omega
 have lai:(D.length:Int)≤2000000:=by omega
 replace hD:=Hd hD
 replace hDW:=Hd hDW
 replace hbw:=Hd hbw
 have ha:=Hd fun(i:Int) (h0:-1000000000≤i) (h1:i≤1000000000)=>at_any (.slice (some ⟨b,off,none⟩) D.length cap) D i W hDW.out (by omega) h0 h1
 go_wp2_with fail
 go_loop [4] (fun v=>∃k:Nat,k≤sc∧v=.int .i64 k∧Hid (∀j,j<k→D.getD j 0=0)) (fun v=>sc-(intOf v).toNat)
 case atStart=>exact⟨0,by omega,rfl,fun j hj=>by omega⟩
 case round =>
  obtain⟨k,hk,rfl,hz⟩:=hrel
  have hki:(k:Int)≤2000000:=by omega
  have hak:=ha.out (k:Int) (by omega) (by omega)
  rw[atL_nat]at hak
  obtain⟨q,hq⟩:∃q:Bool,decide (k<sc∧D.getD k 0=0)=q:=⟨_,rfl⟩
  replace hq:=Hd hq
  go_upto_region 2 with(fail)
  go_cut [19] (fun v wx=>v=.bool q∧wx=W)
  case first=>
   as_aux_lemma=>
    by_cases h1:k<sc
    ·have h1i:((k:Int)<(sc:Int)):=by omega
     by_cases h2:D.getD k 0=0
     ·obtain rfl:true=q:=by rw[←hq.out];exact(decide_eq_true ⟨h1,h2⟩).symm
      rw[h2]at hak
      replace hak:=Hd hak
      go_wp2_with (go_at_call 157;refine hak.out.mono ?_;rintro e w' ⟨rfl,rfl⟩)
      go_meet
      exact⟨rfl,rfl⟩
     ·obtain rfl:false=q:=by rw[←hq.out];exact(decide_eq_false (fun e=>h2 e.2)).symm
      have hne:(((D.getD k 0:Nat):Int)==0)=false:=beq_eq_false_iff_ne.2 (by omega)
      clear hq
      generalize D.getD k 0=x at *
      replace hak:=Hd hak
      go_wp2_with (go_at_call 157;refine hak.out.mono ?_;rintro e w' ⟨rfl,rfl⟩)
      go_meet
      exact⟨rfl,rfl⟩
    ·have h1i:¬((k:Int)<(sc:Int)):=by omega
     obtain rfl:false=q:=by rw[←hq.out];exact(decide_eq_false (fun e=>h1 e.1)).symm
     clear hak
     go_wp2
     go_meet
     exact⟨rfl,rfl⟩
  obtain⟨rfl,hwx⟩:=hcut
  rw[hwx];clear hwx
  cases q
  case true=>
   have hq2:=of_decide_eq_true hq.out
   replace hq2:=Hd hq2
   go_wp2
   go_round
   case rel=>
    refine⟨k+1,by have:=hq2.out.1;omega,by go_num,fun j hj=>?_⟩
    rcases Nat.lt_or_ge j k with e|e
    ·exact hz.out j e
    ·rw[show j=k by omega];exact hq2.out.2
   case measure=>have:=hq2.out.1;simp[intOf];omega
  case false =>
   have hq2:k=sc∨D.getD k 0≠0:=by
    have:=of_decide_eq_false hq.out
    rcases Nat.lt_or_ge k sc with h|h
    ·exact .inr (fun e=>this ⟨h,e⟩)
    ·exact .inl (by omega)
   replace hq2:=Hd hq2
   clear hq hak
   go_wp2_with fail
   go_loop [5] (fun v=>∃h:Nat,v=.int .i64 h∧Hid (h≤D.length∧(h=D.length∨sc+1≤h)∧∀j,h≤j→D.getD j 0=0)) (fun v=>(intOf v).toNat)
   case atStart=>exact⟨D.length,rfl,by omega,.inl rfl,fun j hj=>by rw[List.getD_eq_getElem?_getD,List.getElem?_eq_none hj];rfl⟩
   case round =>
    obtain⟨h,rfl,hz2⟩:=hrel
    have hh:=hz2.out.1
    have hhi:(h:Int)≤2000000:=by omega
    obtain⟨q,hq⟩:∃q:Bool,decide (sc+1<h∧D.getD (h-1) 0=0)=q:=⟨_,rfl⟩
    replace hq:=Hd hq
    go_upto_region 5 with(fail)
    go_cut [38] (fun v wx=>v=.bool q∧wx=W)
    case first=>
     as_aux_lemma=>
      by_cases h1:sc+1<h
      ·have h1i:((sc:Int)+1<(h:Int)):=by omega
       have hcell:=hcl.out (h-1) (by omega)
       have e1:((h:Int)-1).toNat=h-1:=by omega
       have b0:0≤(h:Int)-1:=by omega
       have b1:(h:Int)-1<(D.length:Int):=by omega
       by_cases h2:D.getD (h-1) 0=0
       ·obtain rfl:true=q:=by rw[←hq.out];exact(decide_eq_true ⟨h1,h2⟩).symm
        rw[h2]at hcell
        go_wp2
        go_meet
        exact⟨rfl,rfl⟩
       ·obtain rfl:false=q:=by rw[←hq.out];exact(decide_eq_false (fun e=>h2 e.2)).symm
        have hne:(((D.getD (h-1) 0:Nat):Int)==0)=false:=beq_eq_false_iff_ne.2 (by omega)
        clear hq
        generalize D.getD (h-1) 0=x at *
        go_wp2
        go_meet
        exact⟨rfl,rfl⟩
      ·have h1i:¬((sc:Int)+1<(h:Int)):=by omega
       obtain rfl:false=q:=by rw[←hq.out];exact(decide_eq_false (fun e=>h1 e.1)).symm
       go_wp2
       go_meet
       exact⟨rfl,rfl⟩
    obtain⟨rfl,hwx⟩:=hcut
    rw[hwx];clear hwx
    cases q
    case true=>
     have hq3:=of_decide_eq_true hq.out
     replace hq3:=Hd hq3
     go_wp2
     go_round
     case rel=>
      have h3:=hq3.out.1
      refine⟨h-1,by rw[show((h-1:Nat):Int)=(h:Int)-1 by omega],by omega,.inr (by omega),fun j hj=>?_⟩
      rcases Nat.lt_or_ge j h with e|e
      ·rw[show j=h-1 by omega];exact hq3.out.2
      ·exact hz2.out.2.2 j e
     case measure=>have:=hq3.out.1;simp[intOf];omega
    case false =>
     have hq3:h≤sc+1∨D.getD (h-1) 0≠0:=by
      have:=of_decide_eq_false hq.out
      rcases Nat.lt_or_ge (sc+1) h with h5|h5
      ·exact .inr (fun e=>this ⟨h5,e⟩)
      ·exact .inl h5
     replace hq3:=Hd hq3
     clear hq
     obtain⟨H,hH⟩:∃H:Nat,(if h≤sc then sc+1 else h)=H:=⟨_,rfl⟩
     have hH1:sc+1≤H:=by split at hH<;>omega
     have hH2:H≤2000001:=by split at hH<;>omega
     have hF:=form_told neg (vL D) sc H k hH1 (vL_lt_of hD.out H (fun j hj=>hz2.out.2.2 j (by split at hH<;>omega)))
      (by
       rcases hq3.out with h5|h5
       ·exact .inl (by split at hH<;>omega)
       ·split at hH
        ·exact .inl (by omega)
        ·exact .inr (by rw[←hH];exact vL_ge_of hD.out (h-1) h5))
      hk (vL_dvd_of hD.out k hz.out) (by rw[vL_get hD.out k];exact hq2.out)
     replace hF:=Hd hF
     go_upto_if 44 with(fail)
     go_cut [5] (fun v wx=>v=.int .i64 H∧wx=W)
     case first=>
      as_aux_lemma=>
       by_cases h6:h≤sc
       ·have h6i:(h:Int)≤(sc:Int):=by omega
        rw[if_pos h6]at hH
        have eH:(H:Int)=(sc:Int)+1:=by omega
        replace eH:=Hd eH
        clear hF hq3 hz2 hq2
        go_wp2
        go_meet
        exact⟨by rw[eH.out],rfl⟩
       ·have h6i:¬(h:Int)≤(sc:Int):=by omega
        rw[if_neg h6]at hH
        subst hH
        clear hF hq3 hz2 hq2
        go_wp2
        go_meet
        exact⟨rfl,rfl⟩
     obtain⟨rfl,hwx⟩:=hcut
     rw[hwx];clear hwx
     clear hH hq3 hz2 hq2
     have hHi:(H:Int)≤2000001:=by omega
     have hHi1:(sc:Int)+1≤(H:Int):=by omega
     have hki2:(k:Int)≤(sc:Int):=by omega
     obtain⟨q,hq⟩:∃q:Bool,decide (40<H-sc∨20<sc-k)=q:=⟨_,rfl⟩
     replace hq:=Hd hq
     go_upto_region 9 with(fail)
     go_cut [59] (fun v wx=>v=.bool q∧wx=W)
     case first=>
      as_aux_lemma=>
       by_cases h7:40<H-sc
       ·have h7i:40<(H:Int)-(sc:Int):=by omega
        obtain rfl:true=q:=by rw[←hq.out];exact(decide_eq_true (.inl h7)).symm
        go_wp2
        go_meet
        exact⟨rfl,rfl⟩
       ·have h7i:¬40<(H:Int)-(sc:Int):=by omega
        by_cases h8:20<sc-k
        ·have h8i:20<(sc:Int)-(k:Int):=by omega
         obtain rfl:true=q:=by rw[←hq.out];exact(decide_eq_true (.inr h8)).symm
         go_wp2
         go_meet
         exact⟨rfl,rfl⟩
        ·have h8i:¬20<(sc:Int)-(k:Int):=by omega
         obtain rfl:false=q:=by rw[←hq.out];exact(decide_eq_false (fun e=>e.elim h7 h8)).symm
         go_wp2
         go_meet
         exact⟨rfl,rfl⟩
     obtain⟨rfl,hwx⟩:=hcut
     rw[hwx];clear hwx
     cases q
     case true=>
      have hv:=hF.out
      rw[if_pos (of_decide_eq_true hq.out)]at hv
      replace hv:=Hd hv
      clear hF hq
      go_wp2
      go_ret2
      refine⟨?_,hbw.out⟩
      rw[hv.out]
      rfl
     case false =>
      have hv:=hF.out
      rw[if_neg (of_decide_eq_false hq.out)]at hv
      replace hv:=Hd hv
      clear hF hq
      have hzr:=Hd (zero_any (.slice (some ⟨b,off,none⟩) D.length cap) D W hDW.out (by omega))
      obtain⟨q,hq⟩:∃q:Bool,(neg&&decide (vL D≠0))=q:=⟨_,rfl⟩
      replace hq:=Hd hq
      go_upto_region 12 with(fail)
      go_cut [67] (fun v wx=>v=.bool q∧wx=W)
      case first=>
       as_aux_lemma=>
        cases neg
        case false=>
         obtain rfl:false=q:=by rw[←hq.out];rfl
         go_wp2
         go_meet
         exact⟨rfl,rfl⟩
        case true=>
         by_cases hN:vL D=0
         ·rw[decide_eq_true hN]at hzr
          obtain rfl:false=q:=by rw[←hq.out,decide_eq_false (show ¬(vL D≠0) from fun e=>e hN)];rfl
          go_wp2_with (go_at_call 158;refine hzr.out.mono ?_;rintro e w' ⟨rfl,rfl⟩)
          go_meet
          exact⟨rfl,rfl⟩
         ·rw[decide_eq_false hN]at hzr
          obtain rfl:true=q:=by rw[←hq.out,decide_eq_true (show vL D≠0 from hN)];rfl
          go_wp2_with (go_at_call 158;refine hzr.out.mono ?_;rintro e w' ⟨rfl,rfl⟩)
          go_meet
          exact⟨rfl,rfl⟩
      obtain⟨rfl,hwx⟩:=hcut
      rw[hwx];clear hwx
      rw[hq.out]at hv
      clear hzr hq
      obtain⟨i0,hi,hx⟩:=Option.map_eq_some_iff.1 infoByte
      simp only[Prod.mk.injEq]at hx
      obtain⟨hz0,hz1,hz2⟩:=hx
      replace hi:=Hd hi
      replace hz0:=Hd hz0
      replace hz1:=Hd hz1
      replace hz2:=Hd hz2
      go_upto_if 67 with(fail)
      go_cut [6] (fun v wx=>BW W W.heap.size v (if q then[45] else[]) wx)
      case first=>
       as_aux_lemma=>
        cases q
        case false=>
         go_wp2
         go_meet
         exact BW.start W
        case true=>
         go_wp2_with (at_builtin;refine wpList_append_own _ rfl _ _ 108 rfl W.heap.size 5 i0 (.int .u8 0) 1 1 Tryz.underlying108 hi.out hz0.out hz1.out hz2.out rfl (by decide) _ 0 [] rfl (World.ownsRow_nil _ _ _ _) _ 1 _ [.int .u8 45] rfl rfl ?c1 ?c2 ?c3 ?c4 ?c5 ?_)
         case c2=>simp[Value.oneCell']
         case c3=>decide
         intro v' w' h1 h2 _
         go_wp2
         go_meet
         exact(BW.start W).step (Nat.le_refl _) _ 45 h1 h2
      obtain⟨L0,hL0⟩:∃L:List UInt8,(if q then[45] else[])=L:=⟨_,rfl⟩
      rw[hL0]at hcut hv
      have hL0s:L0.length≤1:=by rw[←hL0];cases q<;>decide
      clear hL0
      have k0:=hcut.below
      go_wp2_with fail
      go_loopw [6,7] (fun v6 v7 wr=>∃m:Nat,sc≤m∧m≤H∧v7=.int .i64 ((m:Int)-1)∧BW W W.heap.size v6 (L0++pad (H-m) (vL D / 10 ^ m)) wr) (fun _ v7 _=>(intOf v7+1).toNat)
      case atStart=>
       refine⟨H,by omega,Nat.le_refl _,rfl,?_⟩
       rw[Nat.sub_self,pad,List.append_nil]
       exact hcut
      case round =>
       obtain⟨m,hk1,hk2,rfl,hB⟩:=hrel
       have hB0:=hB.below
       have d0:=(hB0.cell (p:=⟨w.heap.size,0,none⟩) hWs).trans c0
       have d1:=(hB0.cell (p:=⟨w.heap.size,1,none⟩) hWs).trans c1
       have d2:=(hB0.cell (p:=⟨w.heap.size,2,none⟩) hWs).trans c2
       have hBs:=hB0.size
       have hBo:=hB.own
       have hBl:(L0++pad (H-m) (vL D / 10 ^ m)).length≤2000002:=by rw[List.length_append,pad_length];omega
       have hkz:(m:Int)≤2000001:=by omega
       by_cases hks:sc<m
       ·obtain⟨j,rfl⟩:∃j,m=j+1:=⟨m-1,by omega⟩
        have hj1:(sc:Int)≤(j:Int):=by omega
        rw[show(((j+1:Nat):Int)-1)=(j:Int) by omega]
        have hak:=at_any (.slice (some ⟨b,off,none⟩) D.length cap) D (j:Int) wr (hDW.out.below hB0) (by omega) (by omega) (by omega)
        rw[atL_nat]at hak
        have hpad:L0++pad (H-j) (vL D / 10 ^ j)=(L0++pad (H-(j+1)) (vL D / 10 ^ (j+1)))++[dg (D.getD j 0)]:=by
         rw[show H-j=(H-(j+1))+1 by omega,pad,Nat.div_div_eq_div_mul,←Nat.pow_succ,vL_get hD.out,List.append_assoc]
        have hx9:D.getD j 0≤9:=by have:=dgs_getD hD.out j;omega
        generalize L0++pad (H-(j+1)) (vL D / 10 ^ (j+1))=L at *
        generalize D.getD j 0=x at *
        have hdg:(((dg x).toNat:Nat):Int)=48+(x:Int):=by rw[dg_toNat (by omega)];omega
        clear hv hcut k0 ha c0 c1 c2 hcl
        replace hak:=Hd hak
        replace hpad:=Hd hpad
        replace hB:=Hd hB
        replace hdg:=Hd hdg
        go_wp2_with (first|(go_at_call 157;refine hak.out.mono ?_;rintro e w' ⟨rfl,rfl⟩)|(at_builtin;refine wpList_append_own _ rfl _ _ 108 rfl W.heap.size 5 i0 (.int .u8 0) 1 1 Tryz.underlying108 hi.out hz0.out hz1.out hz2.out rfl (by decide) _ L.length (bytesV L) rfl (hBo.alloc _) _ 1 _ [.int .u8 (48+(x:Int))] rfl rfl ?d1 ?d2 ?d3 ?d4 ?d5 ?d6)|fail)
        case d1=>exact news_one _ _ _
        case d2=>simp[Value.oneCell']
        case d3=>simp only[maxLen];omega
        case d4=>omega
        case d5=>simp;omega
        case d6=>
         intro v' w1 h1 h2 _
         rw[←hdg.out]at h1
         have hI2:=hB.out.step hBs _ (dg x) h1 h2
         rw[←hpad.out]at hI2
         replace hI2:=Hd hI2
         clear h1 h2
         go_wp2
         refine⟨⟨j,by omega,by omega,rfl,hI2.out⟩,?_⟩
         simp only[intOf]
         omega
       ·obtain rfl:sc=m:=by omega
        obtain⟨L1,hL1⟩:∃L1:List UInt8,L0++pad (H-sc) (vL D / 10 ^ sc)=L1:=⟨_,rfl⟩
        rw[hL1]at hv hB hBo hBl
        clear hL1 hcut k0
        replace hB:=Hd hB
        go_wp2_with (first|(at_builtin;refine wpList_append_own _ rfl _ _ 108 rfl W.heap.size 5 i0 (.int .u8 0) 1 1 Tryz.underlying108 hi.out hz0.out hz1.out hz2.out rfl (by decide) _ L1.length (bytesV L1) rfl (hBo.alloc _) _ 1 _ [.int .u8 (46)] rfl rfl ?e1 ?e2 ?e3 ?e4 ?e5 ?e6)|fail)
        case e1=>exact news_one _ _ _
        case e2=>simp[Value.oneCell']
        case e3=>simp only[maxLen];omega
        case e4=>omega
        case e5=>simp;omega
        case e6=>
        intro v' w1 h1 h2 _
        have hI3:=hB.out.step hBs _ 46 h1 h2
        obtain⟨L2,hL2⟩:∃L2:List UInt8,L1++[46]=L2:=⟨_,rfl⟩
        have hL2l:L2.length≤2000003:=by rw[←hL2,List.length_append,List.length_singleton];omega
        have hL2p:0<L2.length:=by rw[←hL2,List.length_append,List.length_singleton];omega
        rw[hL2]at hI3 hv
        clear h1 h2 hB hBo hBl d0 d1 d2 hB0 hL2 hBs
        have k0:=hI3.below
        have d0:=(k0.cell (p:=⟨w.heap.size,0,none⟩) hWs).trans c0
        have d1:=(k0.cell (p:=⟨w.heap.size,1,none⟩) hWs).trans c1
        have d2:=(k0.cell (p:=⟨w.heap.size,2,none⟩) hWs).trans c2
        replace k0:=Hd k0
        replace hI3:=Hd hI3
        go_wp2_with fail
        go_loopw [6,8] (fun v6 v8 wr=>∃m:Nat,k≤m∧m≤sc∧v8=.int .i64 ((m:Int)-1)∧BW W W.heap.size v6 (L2++pad (sc-m) (vL D / 10 ^ m)) wr) (fun _ v8 _=>(intOf v8+1).toNat)
        case atStart=>
         refine⟨sc,by omega,Nat.le_refl _,rfl,?_⟩
         rw[Nat.sub_self,pad,List.append_nil]
         exact hI3.out
        case round=>
         clear d0 d1 d2 k0 hI3
         obtain⟨m,hk3,hk4,rfl,hB⟩:=hrel
         have hB0:=hB.below
         have d0:=(hB0.cell (p:=⟨w.heap.size,0,none⟩) hWs).trans c0
         have d1:=(hB0.cell (p:=⟨w.heap.size,1,none⟩) hWs).trans c1
         have d2:=(hB0.cell (p:=⟨w.heap.size,2,none⟩) hWs).trans c2
         have hBs:=hB0.size
         have hBo:=hB.own
         have hBl:(L2++pad (sc-m) (vL D / 10 ^ m)).length≤4000010:=by rw[List.length_append,pad_length];omega
         have hkz:(m:Int)≤2000001:=by omega
         by_cases hks2:k<m
         ·obtain⟨j,rfl⟩:∃j,m=j+1:=⟨m-1,by omega⟩
          have hj1:(k:Int)≤(j:Int):=by omega
          rw[show(((j+1:Nat):Int)-1)=(j:Int) by omega]
          have hak:=at_any (.slice (some ⟨b,off,none⟩) D.length cap) D (j:Int) wr (hDW.out.below hB0) (by omega) (by omega) (by omega)
          rw[atL_nat]at hak
          have hpad:L2++pad (sc-j) (vL D / 10 ^ j)=(L2++pad (sc-(j+1)) (vL D / 10 ^ (j+1)))++[dg (D.getD j 0)]:=by
           rw[show sc-j=(sc-(j+1))+1 by omega,pad,Nat.div_div_eq_div_mul,←Nat.pow_succ,vL_get hD.out,List.append_assoc]
          have hx9:D.getD j 0≤9:=by have:=dgs_getD hD.out j;omega
          generalize L2++pad (sc-(j+1)) (vL D / 10 ^ (j+1))=L at *
          generalize D.getD j 0=x at *
          have hdg:(((dg x).toNat:Nat):Int)=48+(x:Int):=by rw[dg_toNat (by omega)];omega
          clear hv ha c0 c1 c2 hcl
          replace hak:=Hd hak
          replace hpad:=Hd hpad
          replace hB:=Hd hB
          replace hdg:=Hd hdg
          go_wp2_with (first|(go_at_call 157;refine hak.out.mono ?_;rintro e w' ⟨rfl,rfl⟩)|(at_builtin;refine wpList_append_own _ rfl _ _ 108 rfl W.heap.size 5 i0 (.int .u8 0) 1 1 Tryz.underlying108 hi.out hz0.out hz1.out hz2.out rfl (by decide) _ L.length (bytesV L) rfl (hBo.alloc _) _ 1 _ [.int .u8 (48+(x:Int))] rfl rfl ?f1 ?f2 ?f3 ?f4 ?f5 ?f6)|fail)
          case f1=>exact news_one _ _ _
          case f2=>simp[Value.oneCell']
          case f3=>simp only[maxLen];omega
          case f4=>omega
          case f5=>simp;omega
          case f6=>
           intro v' w1 h1 h2 _
           rw[←hdg.out]at h1
           have hI2:=hB.out.step hBs _ (dg x) h1 h2
           rw[←hpad.out]at hI2
           replace hI2:=Hd hI2
           clear h1 h2
           go_wp2
           refine⟨⟨j,by omega,by omega,rfl,hI2.out⟩,?_⟩
           simp only[intOf]
           omega
         ·obtain rfl:k=m:=by omega
          by_cases hz5:k=sc
          ·subst hz5
           rw[if_pos rfl]at hv
           rw[Nat.sub_self,pad,List.append_nil]at hB hBo hBl
           replace hB:=Hd hB
           replace hv:=Hd hv
           go_wp2_with (first|(at_builtin;refine wpList_append_own _ rfl _ _ 108 rfl W.heap.size 5 i0 (.int .u8 0) 1 1 Tryz.underlying108 hi.out hz0.out hz1.out hz2.out rfl (by decide) _ L2.length (bytesV L2) rfl (hBo.alloc _) _ 1 _ [.int .u8 (48)] rfl rfl ?g1 ?g2 ?g3 ?g4 ?g5 ?g6)|fail)
           case g1=>exact news_one _ _ _
           case g2=>simp[Value.oneCell']
           case g3=>simp only[maxLen];omega
           case g4=>omega
           case g5=>simp;omega
           case g6=>
            intro v' w1 h1 h2 _
            have hI4:=hB.out.step hBs _ 48 h1 h2
            obtain⟨L4,hL4⟩:∃L4:List UInt8,L2++[48]=L4:=⟨_,rfl⟩
            have hL4p:0<L4.length:=by rw[←hL4,List.length_append,List.length_singleton];omega
            have hv4:=hv.out
            rw[hL4]at hI4 hv4
            replace hv4:=Hd hv4
            clear hv hL4
            obtain⟨g,cp,rfl,hcb⟩:=hI4.conv hL4p
            have hbe:=hI4.below
            replace hbe:=Hd hbe
            clear h1 h2 hI4
            go_wp2
            go_ret2
            refine⟨?_,hbw.out.trans (hbe.out.mono (by omega))⟩
            rw[hv4.out]
            rfl
          ·have hzi:((k:Int)==(sc:Int))=false:=beq_eq_false_iff_ne.2 (by omega)
           rw[if_neg hz5]at hv
           obtain⟨L3,hL3⟩:∃L3:List UInt8,L2++pad (sc-k) (vL D / 10 ^ k)=L3:=⟨_,rfl⟩
           have hL3p:0<L3.length:=by rw[←hL3,List.length_append];omega
           rw[hL3]at hB hBo hBl hv
           obtain⟨g,cp,rfl,hcb⟩:=hB.conv hL3p
           clear hL3 hBo
           replace hv:=Hd hv
           replace hB0:=Hd hB0
           replace hB:=Hd hB
           go_wp2
           go_ret2
           refine⟨?_,hbw.out.trans (hB0.out.mono (by omega))⟩
           rw[hv.out]
           rfl
structure GW(w wr:World)(neg:Bool)(v:Value)(sc:Nat)(l:List Nat):Prop where
 below:Below w.heap.size w wr
 b0:Blk wr w.heap.size (numc false (.slice none 0 0) 0) 181
 b1:Blk wr (w.heap.size+1) (numc neg v sc) 181
 own:wr.ownsRow (w.heap.size+1+1) 3 1 v l.length (intsV l)
theorem GW.made(w:World):GW w ((w.alloc (.cells (numc false (.slice none 0 0) 0) 181)).alloc (.cells (numc false (.slice none 0 0) 0) 181)) false (.slice none 0 0) 0 []:=by
 refine⟨(((Keep.refl [] w).alloc _).alloc _).below,(Blk.new _ _ _).alloc _,?_,World.ownsRow_nil _ _ _ _⟩
 have:=Blk.new (w.alloc (.cells (numc false (.slice none 0 0) 0) 181)) (numc false (.slice none 0 0) 0) 181
 rwa [World.size_alloc]at this
theorem GW.neg{w wr:World}{neg:Bool}{v:Value}{sc:Nat}{l:List Nat}(h:GW w wr neg v sc l)(u:Bool):GW w (wr.setCell ⟨w.heap.size+1,0,none⟩ (.bool u)) u v sc l:=
 ⟨h.below.setCell (by show w.heap.size≤w.heap.size+1;omega) _,h.b0.set_other _ (by show w.heap.size≠w.heap.size+1;omega) _,h.b1.set 0 _,own_set h.own (Nat.lt_succ_self _) 0 _⟩
theorem GW.scale{w wr:World}{neg:Bool}{v:Value}{sc:Nat}{l:List Nat}(h:GW w wr neg v sc l)(u:Nat):GW w (wr.setCell ⟨w.heap.size+1,2,none⟩ (.int .i64 (u:Int))) neg v u l:=
 ⟨h.below.setCell (by show w.heap.size≤w.heap.size+1;omega) _,h.b0.set_other _ (by show w.heap.size≠w.heap.size+1;omega) _,h.b1.set 2 _,own_set h.own (Nat.lt_succ_self _) 2 _⟩
theorem GW.lt{w wr:World}{neg:Bool}{v:Value}{sc:Nat}{l:List Nat}(h:GW w wr neg v sc l):w.heap.size+1+1≤wr.heap.size:=h.b1.lt
theorem GW.push{w wr w3:World}{neg:Bool}{v v3:Value}{sc:Nat}{l m:List Nat}(h:GW w wr neg v sc l)(h1:w3.ownsRow (w.heap.size+1+1) 3 1 v3 (l.length+m.length) (intsV l++intsV m))(o:Obj)(h2:(wr.alloc o).grownBy w3 v.ownBlock):
 GW w (w3.setCell ⟨w.heap.size+1,1,none⟩ v3) neg v3 sc (l++m)∧Blk w3 (w.heap.size+1) (numc neg v sc) 181:=by
 have hlt:=h.lt
 have hk:∀k,v.ownBlock=some k→w.heap.size+1+1≤k:=fun k hk=>(h.own.lt k hk).1
 have hb1:Blk w3 (w.heap.size+1) (numc neg v sc) 181:=(h2.block (w.heap.size+1) (by rw[World.size_alloc];omega) (fun e=>by have:=hk _ e.symm;omega)).trans (h.b1.alloc o)
 have hb0:Blk w3 w.heap.size (numc false (.slice none 0 0) 0) 181:=(h2.block w.heap.size (by rw[World.size_alloc];omega) (fun e=>by have:=hk _ e.symm;omega)).trans (h.b0.alloc o)
 have ho:w3.ownsRow (w.heap.size+1+1) 3 1 v3 (l++m).length (intsV (l++m)):=by
  rw[List.length_append]
  simpa[intsV]using h1
 refine⟨⟨((h.below.alloc (by omega) o).grown h2 (by rw[World.size_alloc];omega) (fun k hk'=>by have:=hk k hk';omega)).setCell (by show w.heap.size≤w.heap.size+1;omega) _,hb0.set_other _ (by show w.heap.size≠w.heap.size+1;omega) _,hb1.set 1 _,own_set ho (Nat.lt_succ_self _) 1 _⟩,hb1⟩
theorem GW.fin{w wr:World}{neg:Bool}{v:Value}{sc:Nat}{l:List Nat}(h:GW w wr neg v sc l):
 Below w.heap.size w (((wr.setCell ⟨w.heap.size,0,none⟩ (.bool neg)).setCell ⟨w.heap.size,1,none⟩ v).setCell ⟨w.heap.size,2,none⟩ (.int .i64 (sc:Int))) ∧
 Blk (((wr.setCell ⟨w.heap.size,0,none⟩ (.bool neg)).setCell ⟨w.heap.size,1,none⟩ v).setCell ⟨w.heap.size,2,none⟩ (.int .i64 (sc:Int))) w.heap.size (numc neg v sc) 181 ∧
 IntsAt (((wr.setCell ⟨w.heap.size,0,none⟩ (.bool neg)).setCell ⟨w.heap.size,1,none⟩ v).setCell ⟨w.heap.size,2,none⟩ (.int .i64 (sc:Int))) v l:=by
 have hlt:w.heap.size<w.heap.size+1+1:=by omega
 exact⟨((h.below.setCell (p:=⟨w.heap.size,0,none⟩) (Nat.le_refl _) _).setCell (p:=⟨w.heap.size,1,none⟩) (Nat.le_refl _) _).setCell (p:=⟨w.heap.size,2,none⟩) (Nat.le_refl _) _,
  ((h.b0.set 0 _).set 1 _).set 2 _,own_ints (own_set (own_set (own_set h.own hlt 0 _) hlt 1 _) hlt 2 _)⟩
theorem first_pos{s:ByteArray}{c:UInt8}{r:List UInt8}(h:s.data.toList=c::r):0<s.size:=by
 have:=congrArg List.length h
 simp at this
 omega
theorem first_eq{s:ByteArray}{c:UInt8}{r:List UInt8}(h:s.data.toList=c::r)(h0:0<s.size):s[0].toNat=c.toNat:=by
 have:s[0]=c:=by
  show s.data[0]'h0=c
  rw[←Array.getElem_toList]
  simp[h]
 rw[this]
theorem tail_list{s:ByteArray}{c:UInt8}{r:List UInt8}(h:s.data.toList=c::r):(s.extract 1 (r.length+1)).data.toList=r∧(s.extract 1 (r.length+1)).size≤s.size:=by
 have hl:=congrArg List.length h
 simp at hl
 refine⟨?_,by rw[ByteArray.size_extract];omega⟩
 rw[ByteArray.data_extract,Array.toList_extract,h]
 simp
theorem first_tail{s:ByteArray}(h0:0<s.size):∃r,s.data.toList=s[0]::r∧s.size=r.length+1:=by
 cases hl:s.data.toList with
 |nil=>
  have:=congrArg List.length hl
  simp at this
  have h1:0<s.data.size:=h0
  simp[this]at h1
 | cons c r =>
  have:s[0]=c:=by
   show s.data[0]'h0=c
   rw[←Array.getElem_toList]
   simp[hl]
  refine⟨r,by rw[this],?_⟩
  have:=congrArg List.length hl
  simpa using this
theorem split_at{t:ByteArray}{r:List UInt8}(h:t.data.toList=r)(i:Nat)(hi:i<t.size):r=r.take i++t[i]::r.drop (i+1):=by
 have hl:i<r.length:=by rw[←h];simpa using hi
 have e:t[i]=r[i]:=by
  show t.data[i]'hi=r[i]
  rw[←Array.getElem_toList]
  simp[h]
 rw[e]
 have:=List.take_append_drop i r
 rw[List.drop_eq_getElem_cons hl]at this
 exact this.symm
theorem take_at{t:ByteArray}{r:List UInt8}(h:t.data.toList=r)(i:Nat)(hi:i<t.size):r.take (i+1)=r.take i++[t[i]]:=by
 have hl:i<r.length:=by rw[←h];simpa using hi
 have e:t[i]=r[i]:=by
  show t.data[i]'hi=r[i]
  rw[←Array.getElem_toList]
  simp[h]
 rw[e,List.take_add_one,List.getElem?_eq_getElem hl]
 rfl
theorem drop_at{t:ByteArray}{r:List UInt8}(h:t.data.toList=r)(i:Nat)(hi:i<t.size):r.drop i=t[i]::r.drop (i+1):=by
 have hl:i<r.length:=by rw[←h];simpa using hi
 have e:t[i]=r[i]:=by
  show t.data[i]'hi=r[i]
  rw[←Array.getElem_toList]
  simp[h]
 rw[e,List.drop_eq_getElem_cons hl]
theorem wrap48{n:Nat}(h:48≤n∧n≤57):IntKind.i64.wrap (IntKind.u8.wrap ((n:Int)-48))=((n-48:Nat):Int):=by
 have key:∀m:Fin 10,IntKind.i64.wrap (IntKind.u8.wrap ((m.val:Nat):Int))=(m.val:Int):=by decide
 have:=key ⟨n-48,by omega⟩
 rw[show(n:Int)-48=((n-48:Nat):Int) by omega]
 exact this
def ParseR(w:World)(o:Option (Bool×Nat×Nat))(L:Nat)(e:Ending)(w':World):Prop:=
 Below w.heap.size w w'∧match o with
 |none=>e=.returned (.tuple #[.agg (numc false (.slice none 0 0) 0),.bool false])
 |some (n,N,sc)=>∃v D,e=.returned (.tuple #[.agg (numc n v sc),.bool true])∧IntsAt w' v D∧dgs D∧vL D=N∧1≤D.length∧D.length≤L∧sc≤L∧(∀k,v.ownBlock=some k→w.heap.size≤k)
theorem parsed_big (s : ByteArray) (w : World) (hs : s.size ≤ 1048576) :
 Calls Tryz.prog 104 #[.string s] w (ParseR w (numP s.data.toList) s.size):=by
 obtain⟨o,ho⟩:∃o,numP s.data.toList=o:=⟨_,rfl⟩
 rw[ho]
 replace ho:=Hd ho
 obtain⟨i0,hi,hx⟩:=Option.map_eq_some_iff.1 infoInt
 simp only[Prod.mk.injEq]at hx
 obtain⟨hz0,hz1,hz2⟩:=hx
 replace hi:=Hd hi
 replace hz0:=Hd hz0
 replace hz1:=Hd hz1
 replace hz2:=Hd hz2
 go_enter Tryz.func104,Tryz.ntmps104
 go_upto_region 2 with(fail)
 have pw:GW w ((w.alloc (.cells #[.bool false,.slice none 0 0,.int .i64 0] 181)).alloc (.cells #[.bool false,.slice none 0 0,.int .i64 0] 181)) false (.slice none 0 0) 0 []:=GW.made w
 generalize ((w.alloc (.cells #[.bool false,.slice none 0 0,.int .i64 0] 181)).alloc (.cells #[.bool false,.slice none 0 0,.int .i64 0] 181))=W at *
 have n0:W.cell? ⟨w.heap.size+1,0,none⟩=some (.bool false):=pw.b1.cell 0 rfl
 have n1:W.cell? ⟨w.heap.size+1,1,none⟩=some (.slice none 0 0):=pw.b1.cell 1 rfl
 have n2:W.cell? ⟨w.heap.size+1,2,none⟩=some (.int .i64 0):=pw.b1.cell 2 rfl
 have f0:W.frozen? ⟨w.heap.size+1,0,none⟩=false:=pw.b1.free 0
 have f1:W.frozen? ⟨w.heap.size+1,1,none⟩=false:=pw.b1.free 1
 have f2:W.frozen? ⟨w.heap.size+1,2,none⟩=false:=pw.b1.free 2
 have p0:W.cell? ⟨w.heap.size,0,none⟩=some (.bool false):=pw.b0.cell 0 rfl
 have p1:W.cell? ⟨w.heap.size,1,none⟩=some (.slice none 0 0):=pw.b0.cell 1 rfl
 have p2:W.cell? ⟨w.heap.size,2,none⟩=some (.int .i64 0):=pw.b0.cell 2 rfl
 have q0:W.frozen? ⟨w.heap.size,0,none⟩=false:=pw.b0.free 0
 have q1:W.frozen? ⟨w.heap.size,1,none⟩=false:=pw.b0.free 1
 have q2:W.frozen? ⟨w.heap.size,2,none⟩=false:=pw.b0.free 2
 replace pw:=Hd pw
 obtain⟨q,hq⟩:∃q:Bool,decide (∃h:0<s.size,s[0].toNat=45∨s[0].toNat=43)=q:=⟨_,rfl⟩
 replace hq:=Hd hq
 go_cut [20] (fun v wx=>v=.bool q∧wx=W)
 case first =>
  as_aux_lemma=>
   by_cases h1:0<s.size
   ·have h1i:0<(s.size:Int):=by omega
    obtain⟨n,hn⟩:∃n,s[0].toNat=n:=⟨_,rfl⟩
    by_cases e1:n=45
    ·obtain rfl:true=q:=by rw[←hq.out];exact(decide_eq_true ⟨h1,.inl (hn.trans e1)⟩).symm
     subst e1
     go_wp2
     go_meet
     exact⟨rfl,rfl⟩
    ·have e1i:((n:Int)==45)=false:=beq_eq_false_iff_ne.2 (by omega)
     by_cases e2:n=43
     ·obtain rfl:true=q:=by rw[←hq.out];exact(decide_eq_true ⟨h1,.inr (hn.trans e2)⟩).symm
      subst e2
      go_wp2
      go_meet
      exact⟨rfl,rfl⟩
     ·have e2i:((n:Int)==43)=false:=beq_eq_false_iff_ne.2 (by omega)
      obtain rfl:false=q:=by rw[←hq.out];exact(decide_eq_false (fun⟨_,e⟩=>by rw[hn]at e;exact e.elim e1 e2)).symm
      go_wp2
      go_meet
      exact⟨rfl,rfl⟩
   ·have h1i:¬0<(s.size:Int):=by omega
    obtain rfl:false=q:=by rw[←hq.out];exact(decide_eq_false (fun⟨h,_⟩=>h1 h)).symm
    go_wp2
    go_meet
    exact⟨rfl,rfl⟩
 obtain⟨rfl,hwx⟩:=hcut
 rw[hwx];clear hwx
 go_upto_if 20 with(fail)
 go_cut [0] (fun v wx=>∃(t:ByteArray) (neg:Bool),v=.string t∧numT neg t.data.toList=o∧t.size≤s.size∧GW w wx neg (.slice none 0 0) 0 [])
 case first =>
  as_aux_lemma=>
   cases q
   case false=>
    have hq2:=of_decide_eq_false hq.out
    have hno:numT false s.data.toList=o:=by
     rw[←ho.out]
     refine(numP_other _ ?_ ?_).symm
     ·rintro⟨r,hr⟩
      exact hq2 ⟨first_pos hr,.inl (first_eq hr _)⟩
     ·rintro⟨r,hr⟩
      exact hq2 ⟨first_pos hr,.inr (first_eq hr _)⟩
    clear hq hq2
    replace hno:=Hd hno
    go_wp2
    go_meet
    exact⟨s,false,rfl,hno.out,Nat.le_refl _,pw.out⟩
   case true=>
    obtain⟨h1,hc⟩:=of_decide_eq_true hq.out
    have h1i:0<(s.size:Int):=by omega
    have h2i:(1:Int)≤(s.size:Int):=by omega
    obtain⟨n,hn⟩:∃n,s[0].toNat=n:=⟨_,rfl⟩
    rw[hn]at hc
    obtain⟨r,hr,hsz⟩:=first_tail h1
    have hn2:=Hd hn
    rcases hc with rfl|rfl
    ·clear hq
     go_wp2
     go_meet
     obtain⟨t1,t2⟩:=tail_list hr
     refine⟨_,true,rfl,?_,t2,pw.out.neg true⟩
     rw[t1,←ho.out,hr,show s[0]=45 from UInt8.toNat_inj.1 hn2.out]
     rfl
    ·clear hq
     go_wp2
     go_meet
     obtain⟨t1,t2⟩:=tail_list hr
     refine⟨_,false,rfl,?_,t2,pw.out.neg false⟩
     rw[t1,←ho.out,hr,show s[0]=43 from UInt8.toNat_inj.1 hn2.out]
     rfl
 obtain⟨t,neg,rfl,hno,hts,pw1⟩:=hcut
 clear n0 n1 n2 f0 f1 f2 p0 p1 p2 q0 q1 q2 hq ho pw
 obtain⟨wp,rfl⟩:∃wp:World,wp=wc:=⟨_,rfl⟩
 have n0:wp.cell? ⟨w.heap.size+1,0,none⟩=some (.bool neg):=pw1.b1.cell 0 rfl
 have n1:wp.cell? ⟨w.heap.size+1,1,none⟩=some (.slice none 0 0):=pw1.b1.cell 1 rfl
 have n2:wp.cell? ⟨w.heap.size+1,2,none⟩=some (.int .i64 0):=pw1.b1.cell 2 rfl
 have f0:wp.frozen? ⟨w.heap.size+1,0,none⟩=false:=pw1.b1.free 0
 have f1:wp.frozen? ⟨w.heap.size+1,1,none⟩=false:=pw1.b1.free 1
 have f2:wp.frozen? ⟨w.heap.size+1,2,none⟩=false:=pw1.b1.free 2
 have p0:wp.cell? ⟨w.heap.size,0,none⟩=some (.bool false):=pw1.b0.cell 0 rfl
 have p1:wp.cell? ⟨w.heap.size,1,none⟩=some (.slice none 0 0):=pw1.b0.cell 1 rfl
 have p2:wp.cell? ⟨w.heap.size,2,none⟩=some (.int .i64 0):=pw1.b0.cell 2 rfl
 have q0:wp.frozen? ⟨w.heap.size,0,none⟩=false:=pw1.b0.free 0
 have q1:wp.frozen? ⟨w.heap.size,1,none⟩=false:=pw1.b0.free 1
 have q2:wp.frozen? ⟨w.heap.size,2,none⟩=false:=pw1.b0.free 2
 obtain⟨r,hr⟩:∃r,t.data.toList=r:=⟨_,rfl⟩
 have hrl:r.length=t.size:=by rw[←hr];simp
 have hti:(t.size:Int)≤1048576:=by omega
 rw[hr]at hno
 replace hno:=Hd hno
 replace hr:=Hd hr
 replace hrl:=Hd hrl
 replace pw1:=Hd pw1
 go_wp2_with fail
 go_loop [5,6] (fun v5 v6=>∃(i:Nat) (pt:Int),i≤t.size∧v6=.int .i64 i∧v5=.int .i64 pt∧Hid (PS (r.take i) pt)) (fun _ v6=>t.size-(intOf v6).toNat)
 case atStart=>exact⟨0,-1,by omega,rfl,rfl,.inl ⟨rfl,rfl⟩⟩
 case round =>
  obtain⟨i,pt,hit,rfl,rfl,hP⟩:=hrel
  have hpt:-1≤pt∧pt≤(i:Int):=by
   rcases hP.out with⟨h1,_⟩|⟨W,P,h1,h2,_⟩
   ·omega
   ·have:=congrArg List.length h2
    rw[List.length_take,List.length_append]at this
    omega
  have hii:(i:Int)≤1048576:=by omega
  by_cases hil:i<t.size
  ·have hili:(i:Int)<(t.size:Int):=by omega
   obtain⟨n,hn⟩:∃n,(t[i]'hil).toNat=n:=⟨_,rfl⟩
   have hn256:n<256:=by rw[←hn];exact(t[i]'hil).toNat_lt
   have hsp:=split_at hr.out i hil
   have htk:=take_at hr.out i hil
   have hc:=Hd hn
   obtain⟨q,hq⟩:∃q:Bool,decide (n=46∧pt<0)=q:=⟨_,rfl⟩
   replace hq:=Hd hq
   replace hsp:=Hd hsp
   replace htk:=Hd htk
   go_upto_region 9 with(fail)
   go_cut [40] (fun v wx=>v=.bool q∧wx=wp)
   case first=>
    as_aux_lemma=>
     by_cases e1:n=46
     ·have e1i:((n:Int)==46)=true:=by rw[e1];rfl
      by_cases e2:pt<0
      ·obtain rfl:true=q:=by rw[←hq.out];exact(decide_eq_true ⟨e1,e2⟩).symm
       go_wp2
       go_meet
       exact⟨rfl,rfl⟩
      ·obtain rfl:false=q:=by rw[←hq.out];exact(decide_eq_false (fun e=>e2 e.2)).symm
       go_wp2
       go_meet
       exact⟨rfl,rfl⟩
     ·have e1i:((n:Int)==46)=false:=beq_eq_false_iff_ne.2 (by omega)
      obtain rfl:false=q:=by rw[←hq.out];exact(decide_eq_false (fun e=>e1 e.1)).symm
      go_wp2
      go_meet
      exact⟨rfl,rfl⟩
   obtain⟨rfl,hwx⟩:=hcut
   rw[hwx];clear hwx
   cases q
   case true=>
    have hq2:=of_decide_eq_true hq.out
    have hP2:PS (r.take (i+1)) (i:Int):=by
     rw[htk.out,show t[i]'hil=46 from UInt8.toNat_inj.1 (hc.out.trans hq2.1)]
     have h3:pt=-1:=by omega
     have h4:=hP.out
     rw[h3]at h4
     have h5:=h4.dot
     rwa [List.length_take,hrl.out,Nat.min_eq_left (by omega)]at h5
    replace hP2:=Hd hP2
    clear hq hq2 hn
    go_wp2
    refine⟨⟨i+1,(i:Int),by omega,congrArg _ (by omega),rfl,hP2⟩,?_⟩
    simp only[intOf]
    omega
   case false=>
    have hq2:=of_decide_eq_false hq.out
    by_cases hd:48≤n∧n≤57
    ·have hP2:PS (r.take (i+1)) pt:=by
      rw[htk.out]
      refine hP.out.digit ?_
      unfold isD
      rw[hc.out]
      exact decide_eq_true hd
     have hdg:=digit_any n wp hn256
     rw[decide_eq_true hd]at hdg
     replace hP2:=Hd hP2
     replace hdg:=Hd hdg
     clear hq hq2 hd
     go_wp2_with (go_at_call 156;refine hdg.out.mono ?_;rintro e w2 ⟨rfl,rfl⟩)
     refine⟨⟨i+1,pt,by omega,congrArg _ (by omega),rfl,hP2⟩,?_⟩
     simp only[intOf]
     omega
    ·have hbad:o=none:=by
      rw[←hno.out,hsp.out]
      refine hP.out.bad ?_ (fun e=>hq2 ⟨?_,by omega⟩) _ _
      ·unfold isD
       rw[hc.out]
       exact decide_eq_false hd
      ·rw[←hc.out,e.1];rfl
     obtain rfl:=hbad
     have hdg:=digit_any n wp hn256
     rw[decide_eq_false hd]at hdg
     replace hdg:=Hd hdg
     clear hq hq2 hd
     go_wp2_with (go_at_call 156;refine hdg.out.mono ?_;rintro e wp ⟨rfl,rfl⟩)
     have r0:=Hd (((pw1.out.b0.set 0 (.bool false)).set 1 (.slice none 0 0)).set 2 (.int .i64 0))
     have rb:=Hd (((pw1.out.below.setCell (p:=⟨w.heap.size,0,none⟩) (Nat.le_refl _) (.bool false)).setCell (p:=⟨w.heap.size,1,none⟩) (Nat.le_refl _) (.slice none 0 0)).setCell (p:=⟨w.heap.size,2,none⟩) (Nat.le_refl _) (.int .i64 0))
     exact bodyPost_ret (v:=.tuple #[.agg (numc false (.slice none 0 0) 0),.bool false]) (res2 rfl _ _ w.heap.size 181 _ (0,0) _ _ rfl rfl r0.out.eq Tryz.underlying181 rfl infoNum) rfl ⟨rb.out,rfl⟩
  ·have hili : ¬ (i : Int) < (t.size : Int) := by omega
   have hie:i=r.length:=by rw[hrl.out];omega
   have hend:=hP.out
   rw[hie,List.take_length]at hend
   have hend2:=hend.end neg
   rw[hno.out]at hend2
   obtain⟨q,hq⟩:∃q:Bool,decide (r.length=0∨pt=0∨pt=(r.length:Int)-1)=q:=⟨_,rfl⟩
   have hrli:(r.length:Int)=(t.size:Int):=by have:=hrl.out;omega
   rw[hrli]at hq
   have hrl2:=hrl.out
   clear hend hP hie
   replace hq:=Hd hq
   replace hend2:=Hd hend2
   replace hrli:=Hd hrli
   replace hrl2:=Hd hrl2
   go_upto_region 13 with(fail)
   go_cut [61] (fun v wx=>v=.bool q∧wx=wp)
   case first =>
    as_aux_lemma=>
     by_cases e1:t.size=0
     ·have e1i:(t.size:Int)=0:=by omega
      obtain rfl:true=q:=by rw[←hq.out];exact(decide_eq_true (.inl (by rw[hrl2.out];exact e1))).symm
      go_wp2
      go_meet
      exact⟨rfl,rfl⟩
     ·have e1i:((t.size:Int)==0)=false:=beq_eq_false_iff_ne.2 (by omega)
      by_cases e2:pt=0
      ·obtain rfl:true=q:=by rw[←hq.out];exact(decide_eq_true (.inr (.inl e2))).symm
       subst e2
       go_wp2
       go_meet
       exact⟨rfl,rfl⟩
      ·have e2i:(pt==0)=false:=beq_eq_false_iff_ne.2 e2
       by_cases e3:pt=(t.size:Int)-1
       ·obtain rfl:true=q:=by rw[←hq.out];exact(decide_eq_true (.inr (.inr e3))).symm
        have e3i:(pt==(t.size:Int)-1)=true:=by rw[e3];exact beq_self_eq_true _
        clear e3
        go_wp2
        go_meet
        exact⟨rfl,rfl⟩
       ·obtain rfl:false=q:=by rw[←hq.out];exact(decide_eq_false (fun e=>e.elim (fun e=>e1 (by rw[←hrl2.out];exact e)) (fun e=>e.elim e2 e3))).symm
        have e3i:(pt==(t.size:Int)-1)=false:=beq_eq_false_iff_ne.2 e3
        go_wp2
        go_meet
        exact⟨rfl,rfl⟩
   obtain⟨rfl,hwx⟩:=hcut
   rw[hwx];clear hwx
   cases q
   case true=>
    have hq2:=of_decide_eq_true hq.out
    rw[←hrli.out]at hq2
    rcases hend2.out with⟨_,rfl⟩|⟨h1,_⟩
    ·clear hq hq2 hend2
     go_wp2_with fail
     have r0:=Hd (((pw1.out.b0.set 0 (.bool false)).set 1 (.slice none 0 0)).set 2 (.int .i64 0))
     have rb:=Hd (((pw1.out.below.setCell (p:=⟨w.heap.size,0,none⟩) (Nat.le_refl _) (.bool false)).setCell (p:=⟨w.heap.size,1,none⟩) (Nat.le_refl _) (.slice none 0 0)).setCell (p:=⟨w.heap.size,2,none⟩) (Nat.le_refl _) (.int .i64 0))
     exact bodyPost_ret (v:=.tuple #[.agg (numc false (.slice none 0 0) 0),.bool false]) (res2 rfl _ _ w.heap.size 181 _ (0,0) _ _ rfl rfl r0.out.eq Tryz.underlying181 rfl infoNum) rfl ⟨rb.out,rfl⟩
    ·exact absurd hq2 h1
   case false =>
    have hq2:=of_decide_eq_false hq.out
    rw[←hrli.out]at hq2
    rcases hend2.out with⟨h1,_⟩|⟨_,ho2,hpl,hfl,had⟩
    ·exact absurd h1 hq2
    ·obtain⟨sc,hsc⟩:∃sc,(if 0≤pt then r.length-1-pt.toNat else 0)=sc:=⟨_,rfl⟩
     rw[hsc]at ho2
     obtain rfl:=ho2
     replace hsc:=Hd hsc
     clear hq hq2 hend2
     replace hpl:=Hd hpl
     replace hfl:=Hd hfl
     replace had:=Hd had
     clear n0 n1 n2 f0 f1 f2 p0 p1 p2 q0 q1 q2
     go_wp2_with fail
     go_loopw [7] (fun v7 wr=>∃(k:Nat) (v:Value),k≤t.size∧v7=.int .i64 ((k:Int)-1)∧Hid (GW w wr neg v 0 (digL (r.drop k)))) (fun v7 _=>(intOf v7+1).toNat)
     case atStart=>
      refine⟨t.size,.slice none 0 0,Nat.le_refl _,rfl,?_⟩
      rw[←hrl2.out,List.drop_length]
      exact pw1
     case round =>
      obtain⟨k1,v,hk1,rfl,hG⟩:=hrel
      obtain⟨wo,rfl⟩:∃wo:World,wo=wr:=⟨_,rfl⟩
      have n0:wo.cell? ⟨w.heap.size+1,0,none⟩=some (.bool neg):=hG.out.b1.cell 0 rfl
      have n1:wo.cell? ⟨w.heap.size+1,1,none⟩=some (v):=hG.out.b1.cell 1 rfl
      have n2:wo.cell? ⟨w.heap.size+1,2,none⟩=some (.int .i64 0):=hG.out.b1.cell 2 rfl
      have f0:wo.frozen? ⟨w.heap.size+1,0,none⟩=false:=hG.out.b1.free 0
      have f1:wo.frozen? ⟨w.heap.size+1,1,none⟩=false:=hG.out.b1.free 1
      have f2:wo.frozen? ⟨w.heap.size+1,2,none⟩=false:=hG.out.b1.free 2
      have p0:wo.cell? ⟨w.heap.size,0,none⟩=some (.bool false):=hG.out.b0.cell 0 rfl
      have p1:wo.cell? ⟨w.heap.size,1,none⟩=some (.slice none 0 0):=hG.out.b0.cell 1 rfl
      have p2:wo.cell? ⟨w.heap.size,2,none⟩=some (.int .i64 0):=hG.out.b0.cell 2 rfl
      have q0:wo.frozen? ⟨w.heap.size,0,none⟩=false:=hG.out.b0.free 0
      have q1:wo.frozen? ⟨w.heap.size,1,none⟩=false:=hG.out.b0.free 1
      have q2:wo.frozen? ⟨w.heap.size,2,none⟩=false:=hG.out.b0.free 2
      obtain⟨Lk,hLk⟩:∃Lk,digL (r.drop k1)=Lk:=⟨_,rfl⟩
      have hLk2:=Hd hLk
      rw[hLk]at hG
      have hLl:Lk.length≤1048576:=by rw[←hLk];have:=digL_le (r.drop k1);rw[List.length_drop]at this;have:=hrl.out;omega
      obtain⟨vo,vc,rfl⟩:=(own_ints hG.out.own).form
      clear hLk
      by_cases h0:k1=0
      ·subst h0
       have hL0:digL r=Lk:=hLk2.out
       have hv1:vL Lk=val (r.filter (· != 46)):=by rw[←hL0];exact digL_val r
       have hv2:dgs Lk:=by rw[←hL0];exact digL_dgs had.out
       have hv3:1≤Lk.length:=by rw[←hL0,digL_length];exact hfl.out
       have hv4:Lk.length≤s.size:=by have:=digL_le r;rw[hL0,hrl.out]at this;omega
       have hv5:sc≤s.size:=by
        rw[←hsc.out]
        have:=hrl.out
        split<;>omega
       have hlo:Hid (∀k,(Value.slice vo Lk.length vc).ownBlock=some k→w.heap.size≤k):=fun k hk=>by have:=(hG.out.own.lt k hk).1;omega
       replace hv1:=Hd hv1
       replace hv2:=Hd hv2
       by_cases hp0:0≤pt
       ·have hp1:=hpl.out hp0
        have hsci:(t.size:Int)-1-pt=(sc:Int):=by
         have h1:=hrl.out
         have h2:=hsc.out
         rw[if_pos hp0]at h2
         omega
        obtain⟨rb,r0,ri⟩:=(hG.out.scale sc).fin
        replace rb:=Hd rb
        replace r0:=Hd r0
        replace ri:=Hd ri
        clear hG hLk2
        go_wp2_with fail
        exact bodyPost_ret (v:=.tuple #[.agg (numc neg (.slice vo Lk.length vc) _),.bool true]) (res2 rfl _ _ w.heap.size 181 _ (0,0) _ _ rfl rfl r0.out.eq Tryz.underlying181 rfl infoNum) rfl ⟨rb.out,_,Lk,rfl,ri.out,hv2.out,hv1.out,hv3,hv4,hv5,hlo.out⟩
       ·obtain rfl:0=sc:=by have h2:=hsc.out;rw[if_neg hp0]at h2;exact h2
        obtain⟨rb,r0,ri⟩:=hG.out.fin
        replace rb:=Hd rb
        replace r0:=Hd r0
        replace ri:=Hd ri
        clear hG hLk2
        go_wp2_with fail
        exact bodyPost_ret (v:=.tuple #[.agg (numc neg (.slice vo Lk.length vc) _),.bool true]) (res2 rfl _ _ w.heap.size 181 _ (0,0) _ _ rfl rfl r0.out.eq Tryz.underlying181 rfl infoNum) rfl ⟨rb.out,_,Lk,rfl,ri.out,hv2.out,hv1.out,hv3,hv4,hv5,hlo.out⟩
      ·obtain⟨k,rfl⟩:∃k,k1=k+1:=⟨k1-1,by omega⟩
       rw[show(((k+1:Nat):Int)-1)=(k:Int) by omega]
       have hkt:k<t.size:=by omega
       have hkti:(k:Int)<(t.size:Int):=by omega
       obtain⟨n,hn⟩:∃n,(t[k]'hkt).toNat=n:=⟨_,rfl⟩
       have hdr:=drop_at hr.out k hkt
       have hc:=Hd hn
       by_cases e1:n=46
       ·have hL2:digL (r.drop k)=Lk:=by rw[hdr,show t[k]'hkt=46 from UInt8.toNat_inj.1 (hc.out.trans e1),digL_dot];exact hLk2.out
        subst e1
        replace hL2:=Hd hL2
        replace hdr:=Hd hdr
        clear hLk2
        go_wp2
        refine⟨⟨k,.slice vo Lk.length vc,by omega,rfl,?_⟩,?_⟩
        ·rw[hL2.out];exact hG
        ·simp only[intOf]
         omega
       ·have e1i:((n:Int) != 46)=true:=by simp only[bne_iff_ne,ne_eq];omega
        have hc46:t[k]'hkt≠46:=fun e=>e1 (by rw[←hc.out,e];rfl)
        have hL2:digL (r.drop k)=Lk++[dv (t[k]'hkt)]:=by rw[hdr,digL_cons hc46];rw[hLk2.out]
        have hmem:t[k]'hkt∈r.filter (· != 46):=by
         rw[List.mem_filter]
         refine⟨List.mem_of_mem_drop (i:=k) (by rw[hdr];simp),by simpa using hc46⟩
        have hisd:=allD_mem had.out hmem
        unfold isD at hisd
        rw[hc.out]at hisd
        have hd:=of_decide_eq_true hisd
        have hdv:dv (t[k]'hkt)=n-48:=by unfold dv;rw[hc.out]
        rw[hdv]at hL2
        have hni:(n:Int)-48=((n-48:Nat):Int):=by omega
        have hd1:(48:Int)≤(n:Int):=by omega
        have hd2:(n:Int)≤57:=by omega
        replace hL2:=Hd hL2
        replace hdr:=Hd hdr
        replace hni:=Hd hni
        clear hLk2 hdv hisd hmem
        have hwr:Hid (IntKind.i64.wrap (IntKind.u8.wrap ((n:Int)-48))=((n-48:Nat):Int)):=wrap48 hd
        have hown:=hG.out.own
        have hLm:Lk.length+1≤maxLen:=by simp only[maxLen];omega
        have hLb:(Lk.length+1) * 8≤140737488355328:=by omega
        have hbs:=hG.out.lt
        have kn1:∀o:Obj,(wo.alloc o).cell? ⟨w.heap.size+1,1,none⟩=some (.slice vo Lk.length vc):=fun o=>(((Below.refl wo.heap.size wo).alloc (Nat.le_refl _) o).cell (p:=⟨w.heap.size+1,1,none⟩) (by show w.heap.size+1<wo.heap.size;omega)).trans n1
        replace hown:=Hd hown
        clear hLl
        go_wp2_with fail
        go_region_law (refine step_append_lies _ rfl (.tmp 75) (.tmp 81) 52 rfl (w.heap.size+1+1) 3 i0 (.int .i64 0) 1 8 Tryz.underlying52 hi.out hz0.out hz1.out hz2.out rfl (by decide) _ Lk.length (intsV Lk) rfl ?_ _ 1 1 [.int .i64 (IntKind.i64.wrap (IntKind.u8.wrap ((n:Int)-48)))] rfl rfl ?_ ?_ (by decide) hLm hLb ?_ _ rfl ?_;exact World.ownsRow.drew (hown.out.alloc _);exact news_one _ _ _;simp[Value.oneCell'];exact Nat.le_trans hbs (by show wo.heap.size≤(wo.alloc _).heap.size;rw[World.size_alloc];omega);intro g cap w3 ho hg _ _;rw[hwr.out]at ho;obtain⟨hP3,hB3⟩:=hG.out.push (m:=[n-48]) ho _ ⟨hg.os,hg.tape,hg.output,hg.size,hg.block⟩;have m1:w3.cell? ⟨w.heap.size+1,1,none⟩=some (.slice vo Lk.length vc):=hB3.cell 1 rfl;have m2:w3.frozen? ⟨w.heap.size+1,1,none⟩=false:=hB3.free 1;replace hP3:=Hd hP3;clear ho hg hB3)
        all_goals
         clear n0 n1 n2 f0 f1 f2 p0 p1 p2 q0 q1 q2 kn1 m1 m2
         go_wp2
         refine⟨⟨k,.slice (some ⟨g,0,none⟩) (Lk.length+1) cap,by omega,rfl,?_⟩,?_⟩
         ·rw[hL2.out];exact hP3
         ·simp only[intOf]
          omega
theorem rread_big(s:ByteArray)(w:World)(hs:s.size≤1048576):Calls Tryz.prog 76 #[.string s] w fun e w'=>e=.returned (rv (readP s.data.toList))∧Below w.heap.size w w':=by
 have hp:=parsed_big s w hs
 rw[readP_num]
 obtain⟨o,ho⟩:∃o,numP s.data.toList=o:=⟨_,rfl⟩
 rw[ho]at hp ⊢
 replace hp:=Hd hp
 clear ho
 go_enter Tryz.func76,Tryz.ntmps76
 go_wp2_with fail
 refine hp.out.mono ?_
 rintro e w1 ⟨hb1,hr⟩
 clear hp
 cases o with
 |none=>
  have he:e=.returned (.tuple #[.agg #[.bool false,.slice none 0 0,.int .i64 0],.bool false]):=hr
  subst he
  clear hr
  replace hb1:=Hd hb1
  go_wp2
  go_ret2
  exact⟨rfl,hb1.out.alloc hb1.out.size _⟩
 |some p=>
  obtain⟨n,N,sc⟩:=p
  obtain⟨v,D,he,hi,hd,hv,h1,hl,hsc,_⟩:=hr
  have he':e=.returned (.tuple #[.agg #[.bool n,v,.int .i64 sc],.bool true]):=he
  subst he'
  clear he
  obtain⟨vo,vc,rfl⟩:=hi.form
  replace hb1:=Hd hb1
  replace hi:=Hd hi
  replace hd:=Hd hd
  replace hv:=Hd hv
  go_wp2_with fail
  have hfm:=rform_any n (.slice vo D.length vc) D sc (w1.alloc (.cells #[.bool n,.slice vo D.length vc,.int .i64 sc] 181)) (hi.out.below ((Below.refl _ _).alloc (Nat.le_refl _) _)) hd.out h1 (by omega) (by omega)
  rw[hv.out]at hfm
  refine hfm.mono ?_
  unfold rv
  rintro e w2 ⟨rfl,hb2⟩
  have hb3:=(hb1.out.alloc hb1.out.size (.cells #[.bool n,.slice vo D.length vc,.int .i64 sc] 181)).trans (hb2.mono (by rw[World.size_alloc];have:=hb1.out.size;omega))
  replace hb3:=Hd hb3
  clear hb2 hfm
  go_wp2
  go_ret2
  exact⟨rfl,hb3.out⟩
theorem chk_or(l:List UInt8):chk l=((readP l).2==0&&(readP l).1==l):=by
 unfold chk
 by_cases h:((readP l).2==0&&(readP l).1==l)=true
 ·rw[h,Bool.and_true]
  rw[Bool.and_eq_true,beq_iff_eq,beq_iff_eq]at h
  obtain⟨z,hz,e⟩:=readP_zero l (readP l).1 (by rw[←h.1])
  rw[h.2]at e
  rw[e]
  exact decide_eq_true (canon_len z hz)
 ·rw[Bool.eq_false_iff.2 h,Bool.and_false]
theorem rcheck_big(s:ByteArray)(w:World)(hs:s.size≤1048576):Calls Tryz.prog 63 #[.string s] w fun e w'=>e=.returned (.bool (chk s.data.toList))∧Below w.heap.size w w':=by
 have hc:=chk_or s.data.toList
 have hr:=rread_big s w hs
 generalize readP s.data.toList=p at hc hr
 replace hc:=Hd hc
 unfold rv at hr
 replace hr:=Hd hr
 have hi:(s.size:Int)≤1048576:=by omega
 obtain⟨t,e⟩:=p
 by_cases he:e=0
 ·subst he
  go_enter Tryz.func63,Tryz.ntmps63
  go_wp2_with (go_at_call 76;refine hr.out.mono ?_;rintro e1 w1 ⟨rfl,hb⟩)
  go_ret
  exact⟨ret_bool (by rw[hc.out];simp[Go.ByteArray.toList_eq]),hb⟩
 ·have he':(e==0)=false:=by simpa using he
  go_enter Tryz.func63,Tryz.ntmps63
  go_wp2_with (go_at_call 76;refine hr.out.mono ?_;rintro e1 w1 ⟨rfl,hb⟩)
  go_ret
  exact⟨ret_bool (by rw[hc.out];simp[he']),hb⟩
end Go.Proofs.YtmpldjbdhbapbaaGreatDoor.dec
