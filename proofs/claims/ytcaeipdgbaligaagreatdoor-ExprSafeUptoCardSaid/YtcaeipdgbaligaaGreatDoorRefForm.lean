/- Texts DecZ, RefPlain, RefForm, one behind the other. -/
import Derived.Test.YtcaeipdgbaligaaGreatDoorDecInfo
set_option linter.unusedVariables false
namespace Go.Proofs.YtcaeipdgbaligaaGreatDoor.dec
def E20:Nat:=10 ^ 20
theorem E20_pos:0<E20:=Nat.pow_pos (by decide)
def cmpI(x y:Int):Int:=if x=y then 0 else if x<y then -1 else 1
end Go.Proofs.YtcaeipdgbaligaaGreatDoor.dec
set_option linter.unusedVariables false
namespace Go.Proofs.YtcaeipdgbaligaaGreatDoor.dec
theorem vL_lt_of{D:List Nat}(hD:dgs D)(h:Nat)(hz:∀j,h≤j→D.getD j 0=0):vL D<10 ^ h:=by
 have key:∀j,h≤j→vL D / 10 ^ j=0:=by
  have hlen:=vL_lt hD
  intro j
  by_cases hj:D.length≤j
  ·intro _
   exact Nat.div_eq_of_lt (Nat.lt_of_lt_of_le hlen (Nat.pow_le_pow_right (by decide) hj))
  ·obtain⟨k,hk⟩:∃k,D.length=j+k:=⟨D.length-j,by omega⟩
   clear hj
   induction k generalizing j with
   |zero=>intro _;exact Nat.div_eq_of_lt (by rw[hk]at hlen;exact hlen)
   |succ k ih=>
    intro hj
    have h1:=ih (j+1) (by omega) (by omega)
    have h2:=vL_get hD j
    rw[hz j hj]at h2
    rw[Nat.pow_succ,←Nat.div_div_eq_div_mul]at h1
    omega
 have:=key h (Nat.le_refl _)
 have hp:0<10 ^ h:=Nat.pow_pos (by decide)
 exact(Nat.div_eq_zero_iff_lt hp).1 this
theorem vL_ge_of{D:List Nat}(hD:dgs D)(h:Nat)(hz:D.getD h 0≠0):10 ^ h≤vL D:=by
 apply Classical.byContradiction
 intro hc
 have h2:=vL_get hD h
 rw[Nat.div_eq_of_lt (by omega)]at h2
 omega
theorem vL_dvd_of{D:List Nat}(hD:dgs D)(l:Nat)(hz:∀j,j<l→D.getD j 0=0):vL D % 10 ^ l=0:=by
 induction l with
 |zero=>simp[Nat.mod_one]
 |succ l ih=>
  have h1:=ih (fun j hj=>hz j (by omega))
  have h2:=vL_get hD l
  rw[hz l (by omega)]at h2
  rw[Nat.pow_succ,Nat.mod_mul,h1,h2];omega
theorem whole_pad(q m:Nat)(hm:1≤m)(hq:q<10 ^ m)(hg:m=1∨10 ^ (m-1)≤q):pad m q=orZero (digs q)∧(m≤40↔(digs q).length≤40):=by
 by_cases h0:q=0
 ·subst h0
  have hm1:m=1:=by
   rcases hg with h|h
   ·exact h
   ·have:0<10 ^ (m-1):=Nat.pow_pos (by decide)
    omega
  subst hm1
  exact⟨rfl,by simp[digs]⟩
 ·have hlen:(digs q).length=m:=by
   have h1:=(digs_lt q m).2 hq
   have h2:¬(digs q).length≤m-1:=by
    intro h
    have h3:=(digs_lt q (m-1)).1 h
    rcases hg with h4|h4
    ·subst h4;simp at h3;omega
    ·omega
   omega
  have ht:trimL (pad m q)=digs q:=by rw[trimL_eq (pad_allD _ _),pad_val,Nat.mod_eq_of_lt hq]
  have hd:(trimL (pad m q)).length=(pad m q).length:=by rw[ht,hlen,pad_length]
  have hsuf:trimL (pad m q)=pad m q:=(List.dropWhile_suffix (p:=fun x=>x==48) (l:=pad m q)).eq_of_length hd
  refine⟨?_,by rw[hlen]⟩
  rw[←hsuf,ht]
  unfold orZero
  rw[if_neg (fun e=>h0 (digs_nil.1 e))]
theorem part_pad(N sc low:Nat)(hl:low≤sc)(hz:N % 10 ^ low=0)(hg:low=sc∨N / 10 ^ low % 10≠0):
 orZero (frac sc N)=(if low=sc then[48] else pad (sc-low) (N / 10 ^ low))∧(frac sc N).length=sc-low:=by
 obtain⟨k,rfl⟩:∃k,sc=k+low:=⟨sc-low,by omega⟩
 have hN:N=N / 10 ^ low * 10 ^ low:=by
  have:=Nat.div_add_mod N (10 ^ low)
  rw[hz,Nat.mul_comm]at this;omega
 have hf:frac (k+low) N=frac k (N / 10 ^ low):=by
  conv=>lhs;rw[hN]
  exact frac_more k low _
 rw[hf,Nat.add_sub_cancel]
 cases k with
 |zero=>rw[Nat.zero_add,if_pos rfl,frac_zero];exact⟨rfl,rfl⟩
 |succ k=>
  have hne:N / 10 ^ low % 10≠0:=by rcases hg with h|h<;>omega
  rw[if_neg (by omega),frac_step,if_neg hne]
  refine⟨?_,pad_length _ _⟩
  unfold orZero
  rw[if_neg (by intro e;have:=congrArg List.length e;rw[pad_length]at this;simp at this)]
theorem form_told(neg:Bool)(N sc high low:Nat)(h1:sc+1≤high)(h2:N<10 ^ high)(h3:high=sc+1∨10 ^ (high-1)≤N)(h4:low≤sc)(h5:N % 10 ^ low=0)(h6:low=sc∨N / 10 ^ low % 10≠0):
 toldP neg N sc=if 40<high-sc∨20<sc-low then([],2) else
  ((if neg&&decide (N≠0) then[45] else[])++pad (high-sc) (N / 10 ^ sc)++[46]++(if low=sc then[48] else pad (sc-low) (N / 10 ^ low)),0):=by
 have hp:0<10 ^ sc:=Nat.pow_pos (by decide)
 have hq:N / 10 ^ sc<10 ^ (high-sc):=by
  rw[Nat.div_lt_iff_lt_mul hp,←Nat.pow_add,show high-sc+sc=high by omega];exact h2
 have hg:high-sc=1∨10 ^ (high-sc-1)≤N / 10 ^ sc:=by
  rcases h3 with h|h
  ·exact .inl (by omega)
  ·right
   rw[Nat.le_div_iff_mul_le hp,←Nat.pow_add,show high-sc-1+sc=high-1 by omega];exact h
 obtain⟨w1,w2⟩:=whole_pad (N / 10 ^ sc) (high-sc) (by omega) hq hg
 obtain⟨p1,p2⟩:=part_pad N sc low h4 h5 h6
 unfold toldP told
 rw[p2]
 by_cases hc:40<high-sc∨20<sc-low
 ·rw[if_pos hc,if_pos (by omega)]
 ·rw[if_neg hc,if_neg (by omega),w1,←p1,fmt_eq]
  simp
end Go.Proofs.YtcaeipdgbaligaaGreatDoor.dec
set_option linter.unusedSimpArgs false
set_option linter.unusedVariables false
set_option maxRecDepth 100000
set_option maxHeartbeats 4000000
namespace Go.Proofs.YtcaeipdgbaligaaGreatDoor.dec
open Go.ChangeShapes Go.WideShapes Go.ChangeAt Go.RowKit kit
theorem rform_any (neg : Bool) (va : Value) (D : List Nat) (sc : Nat) (w : World) (hva : IntsAt w va D) (hD : dgs D) (hn : 1 ≤ D.length) (hl : D.length ≤ 2000000) (hsc : sc ≤ 2000000) :
 Calls Tryz.prog 194 #[.agg #[.bool neg,va,.int .i64 sc]] w fun e w'=>e=.returned (rv (toldP neg (vL D) sc))∧Below w.heap.size w w':=by
 rcases hva with⟨rfl,rfl⟩|⟨b,off,cap,rfl,hlt,hc⟩
 ·simp at hn
 go_enter Tryz.func194,Tryz.ntmps194
 go_upto_region 1 with(fail)
 obtain⟨W,hW⟩:∃W,W=w.alloc (.cells #[.bool neg,.slice (some ⟨b,off,none⟩) D.length cap,.int .i64 sc] 239):=⟨_,rfl⟩
 have hbw:Below w.heap.size w W:=by rw[hW];exact(Below.refl _ _).alloc (Nat.le_refl _) _
 have c0:W.cell? ⟨w.heap.size,0,none⟩=some (.bool neg):=by rw[hW,World.cell?_alloc_new];rfl
 have c1:W.cell? ⟨w.heap.size,1,none⟩=some (.slice (some ⟨b,off,none⟩) D.length cap):=by rw[hW,World.cell?_alloc_new];rfl
 have c2:W.cell? ⟨w.heap.size,2,none⟩=some (.int .i64 sc):=by rw[hW,World.cell?_alloc_new];rfl
 have hDW:IntsAt W (.slice (some ⟨b,off,none⟩) D.length cap) D:=IntsAt.below (.inr ⟨b,off,cap,rfl,hlt,hc⟩) hbw
 have hcl:=Hd fun(j:Nat) (hj:j<D.length)=>(hbw.cell (p:=⟨b,off+j,none⟩) hlt).trans (hc j hj)
 have hWs:w.heap.size<W.heap.size:=by rw[hW,World.size_alloc];omega
 rw[←hW]
 clear hW hc
 have sci:(sc:Int)≤2000000:=by omega
 have lai:(D.length:Int)≤2000000:=by omega
 replace hD:=Hd hD
 replace hDW:=Hd hDW
 replace hbw:=Hd hbw
 have ha:=Hd fun(i:Int) (h0:-1000000000≤i) (h1:i≤1000000000)=>at_any (.slice (some ⟨b,off,none⟩) D.length cap) D i W hDW.out (by omega) h0 h1
 go_wp2_with fail
 go_loop [4] (fun v=>∃k:Nat,k≤sc∧v=.int .i64 k∧Hid (∀j,j<k→D.getD j 0=0)) (fun v=>sc-(intOf v).toNat)
 case atStart=>exact⟨0,by omega,rfl,fun j hj=>by omega⟩
 case round =>
  obtain⟨k,hk,rfl,hz⟩:=hrel
  have hki:(k:Int)≤2000000:=by omega
  have hak:=ha.out (k:Int) (by omega) (by omega)
  rw[atL_nat]at hak
  obtain⟨q,hq⟩:∃q:Bool,decide (k<sc∧D.getD k 0=0)=q:=⟨_,rfl⟩
  replace hq:=Hd hq
  go_upto_region 2 with(fail)
  go_cut [19] (fun v wx=>v=.bool q∧wx=W)
  case first=>
   as_aux_lemma=>
    by_cases h1:k<sc
    ·have h1i:((k:Int)<(sc:Int)):=by omega
     by_cases h2:D.getD k 0=0
     ·obtain rfl:true=q:=by rw[←hq.out];exact(decide_eq_true ⟨h1,h2⟩).symm
      rw[h2]at hak
      replace hak:=Hd hak
      go_wp2_with (go_at_call 208;refine hak.out.mono ?_;rintro e w' ⟨rfl,rfl⟩)
      go_meet
      exact⟨rfl,rfl⟩
     ·obtain rfl:false=q:=by rw[←hq.out];exact(decide_eq_false (fun e=>h2 e.2)).symm
      have hne:(((D.getD k 0:Nat):Int)==0)=false:=beq_eq_false_iff_ne.2 (by omega)
      clear hq
      generalize D.getD k 0=x at *
      replace hak:=Hd hak
      go_wp2_with (go_at_call 208;refine hak.out.mono ?_;rintro e w' ⟨rfl,rfl⟩)
      go_meet
      exact⟨rfl,rfl⟩
    ·have h1i:¬((k:Int)<(sc:Int)):=by omega
     obtain rfl:false=q:=by rw[←hq.out];exact(decide_eq_false (fun e=>h1 e.1)).symm
     clear hak
     go_wp2
     go_meet
     exact⟨rfl,rfl⟩
  obtain⟨rfl,hwx⟩:=hcut
  rw[hwx];clear hwx
  cases q
  case true=>
   have hq2:=of_decide_eq_true hq.out
   replace hq2:=Hd hq2
   go_wp2
   go_round
   case rel=>
    refine⟨k+1,by have:=hq2.out.1;omega,by go_num,fun j hj=>?_⟩
    rcases Nat.lt_or_ge j k with e|e
    ·exact hz.out j e
    ·rw[show j=k by omega];exact hq2.out.2
   case measure=>have:=hq2.out.1;simp[intOf];omega
  case false =>
   have hq2:k=sc∨D.getD k 0≠0:=by
    have:=of_decide_eq_false hq.out
    rcases Nat.lt_or_ge k sc with h|h
    ·exact .inr (fun e=>this ⟨h,e⟩)
    ·exact .inl (by omega)
   replace hq2:=Hd hq2
   clear hq hak
   go_wp2_with fail
   go_loop [5] (fun v=>∃h:Nat,v=.int .i64 h∧Hid (h≤D.length∧(h=D.length∨sc+1≤h)∧∀j,h≤j→D.getD j 0=0)) (fun v=>(intOf v).toNat)
   case atStart=>exact⟨D.length,rfl,by omega,.inl rfl,fun j hj=>by rw[List.getD_eq_getElem?_getD,List.getElem?_eq_none hj];rfl⟩
   case round =>
    obtain⟨h,rfl,hz2⟩:=hrel
    have hh:=hz2.out.1
    have hhi:(h:Int)≤2000000:=by omega
    obtain⟨q,hq⟩:∃q:Bool,decide (sc+1<h∧D.getD (h-1) 0=0)=q:=⟨_,rfl⟩
    replace hq:=Hd hq
    go_upto_region 5 with(fail)
    go_cut [38] (fun v wx=>v=.bool q∧wx=W)
    case first=>
     as_aux_lemma=>
      by_cases h1:sc+1<h
      ·have h1i:((sc:Int)+1<(h:Int)):=by omega
       have hcell:=hcl.out (h-1) (by omega)
       have e1:((h:Int)-1).toNat=h-1:=by omega
       have b0:0≤(h:Int)-1:=by omega
       have b1:(h:Int)-1<(D.length:Int):=by omega
       by_cases h2:D.getD (h-1) 0=0
       ·obtain rfl:true=q:=by rw[←hq.out];exact(decide_eq_true ⟨h1,h2⟩).symm
        rw[h2]at hcell
        go_wp2
        go_meet
        exact⟨rfl,rfl⟩
       ·obtain rfl:false=q:=by rw[←hq.out];exact(decide_eq_false (fun e=>h2 e.2)).symm
        have hne:(((D.getD (h-1) 0:Nat):Int)==0)=false:=beq_eq_false_iff_ne.2 (by omega)
        clear hq
        generalize D.getD (h-1) 0=x at *
        go_wp2
        go_meet
        exact⟨rfl,rfl⟩
      ·have h1i:¬((sc:Int)+1<(h:Int)):=by omega
       obtain rfl:false=q:=by rw[←hq.out];exact(decide_eq_false (fun e=>h1 e.1)).symm
       go_wp2
       go_meet
       exact⟨rfl,rfl⟩
    obtain⟨rfl,hwx⟩:=hcut
    rw[hwx];clear hwx
    cases q
    case true=>
     have hq3:=of_decide_eq_true hq.out
     replace hq3:=Hd hq3
     go_wp2
     go_round
     case rel=>
      have h3:=hq3.out.1
      refine⟨h-1,by rw[show((h-1:Nat):Int)=(h:Int)-1 by omega],by omega,.inr (by omega),fun j hj=>?_⟩
      rcases Nat.lt_or_ge j h with e|e
      ·rw[show j=h-1 by omega];exact hq3.out.2
      ·exact hz2.out.2.2 j e
     case measure=>have:=hq3.out.1;simp[intOf];omega
    case false =>
     have hq3:h≤sc+1∨D.getD (h-1) 0≠0:=by
      have:=of_decide_eq_false hq.out
      rcases Nat.lt_or_ge (sc+1) h with h5|h5
      ·exact .inr (fun e=>this ⟨h5,e⟩)
      ·exact .inl h5
     replace hq3:=Hd hq3
     clear hq
     obtain⟨H,hH⟩:∃H:Nat,(if h≤sc then sc+1 else h)=H:=⟨_,rfl⟩
     have hH1:sc+1≤H:=by split at hH<;>omega
     have hH2:H≤2000001:=by split at hH<;>omega
     have hF:=form_told neg (vL D) sc H k hH1 (vL_lt_of hD.out H (fun j hj=>hz2.out.2.2 j (by split at hH<;>omega)))
      (by
       rcases hq3.out with h5|h5
       ·exact .inl (by split at hH<;>omega)
       ·split at hH
        ·exact .inl (by omega)
        ·exact .inr (by rw[←hH];exact vL_ge_of hD.out (h-1) h5))
      hk (vL_dvd_of hD.out k hz.out) (by rw[vL_get hD.out k];exact hq2.out)
     replace hF:=Hd hF
     go_upto_if 44 with(fail)
     go_cut [5] (fun v wx=>v=.int .i64 H∧wx=W)
     case first=>
      as_aux_lemma=>
       by_cases h6:h≤sc
       ·have h6i:(h:Int)≤(sc:Int):=by omega
        rw[if_pos h6]at hH
        have eH:(H:Int)=(sc:Int)+1:=by omega
        replace eH:=Hd eH
        clear hF hq3 hz2 hq2
        go_wp2
        go_meet
        exact⟨by rw[eH.out],rfl⟩
       ·have h6i:¬(h:Int)≤(sc:Int):=by omega
        rw[if_neg h6]at hH
        subst hH
        clear hF hq3 hz2 hq2
        go_wp2
        go_meet
        exact⟨rfl,rfl⟩
     obtain⟨rfl,hwx⟩:=hcut
     rw[hwx];clear hwx
     clear hH hq3 hz2 hq2
     have hHi:(H:Int)≤2000001:=by omega
     have hHi1:(sc:Int)+1≤(H:Int):=by omega
     have hki2:(k:Int)≤(sc:Int):=by omega
     obtain⟨q,hq⟩:∃q:Bool,decide (40<H-sc∨20<sc-k)=q:=⟨_,rfl⟩
     replace hq:=Hd hq
     go_upto_region 9 with(fail)
     go_cut [59] (fun v wx=>v=.bool q∧wx=W)
     case first=>
      as_aux_lemma=>
       by_cases h7:40<H-sc
       ·have h7i:40<(H:Int)-(sc:Int):=by omega
        obtain rfl:true=q:=by rw[←hq.out];exact(decide_eq_true (.inl h7)).symm
        go_wp2
        go_meet
        exact⟨rfl,rfl⟩
       ·have h7i:¬40<(H:Int)-(sc:Int):=by omega
        by_cases h8:20<sc-k
        ·have h8i:20<(sc:Int)-(k:Int):=by omega
         obtain rfl:true=q:=by rw[←hq.out];exact(decide_eq_true (.inr h8)).symm
         go_wp2
         go_meet
         exact⟨rfl,rfl⟩
        ·have h8i:¬20<(sc:Int)-(k:Int):=by omega
         obtain rfl:false=q:=by rw[←hq.out];exact(decide_eq_false (fun e=>e.elim h7 h8)).symm
         go_wp2
         go_meet
         exact⟨rfl,rfl⟩
     obtain⟨rfl,hwx⟩:=hcut
     rw[hwx];clear hwx
     cases q
     case true=>
      have hv:=hF.out
      rw[if_pos (of_decide_eq_true hq.out)]at hv
      replace hv:=Hd hv
      clear hF hq
      go_wp2
      go_ret2
      refine⟨?_,hbw.out⟩
      rw[hv.out]
      rfl
     case false =>
      have hv:=hF.out
      rw[if_neg (of_decide_eq_false hq.out)]at hv
      replace hv:=Hd hv
      clear hF hq
      have hzr:=Hd (zero_any (.slice (some ⟨b,off,none⟩) D.length cap) D W hDW.out (by omega))
      obtain⟨q,hq⟩:∃q:Bool,(neg&&decide (vL D≠0))=q:=⟨_,rfl⟩
      replace hq:=Hd hq
      go_upto_region 12 with(fail)
      go_cut [67] (fun v wx=>v=.bool q∧wx=W)
      case first=>
       as_aux_lemma=>
        cases neg
        case false=>
         obtain rfl:false=q:=by rw[←hq.out];rfl
         go_wp2
         go_meet
         exact⟨rfl,rfl⟩
        case true=>
         by_cases hN:vL D=0
         ·rw[decide_eq_true hN]at hzr
          obtain rfl:false=q:=by rw[←hq.out,decide_eq_false (show ¬(vL D≠0) from fun e=>e hN)];rfl
          go_wp2_with (go_at_call 209;refine hzr.out.mono ?_;rintro e w' ⟨rfl,rfl⟩)
          go_meet
          exact⟨rfl,rfl⟩
         ·rw[decide_eq_false hN]at hzr
          obtain rfl:true=q:=by rw[←hq.out,decide_eq_true (show vL D≠0 from hN)];rfl
          go_wp2_with (go_at_call 209;refine hzr.out.mono ?_;rintro e w' ⟨rfl,rfl⟩)
          go_meet
          exact⟨rfl,rfl⟩
      obtain⟨rfl,hwx⟩:=hcut
      rw[hwx];clear hwx
      rw[hq.out]at hv
      clear hzr hq
      obtain⟨i0,hi,hx⟩:=Option.map_eq_some_iff.1 infoByte
      simp only[Prod.mk.injEq]at hx
      obtain⟨hz0,hz1,hz2⟩:=hx
      replace hi:=Hd hi
      replace hz0:=Hd hz0
      replace hz1:=Hd hz1
      replace hz2:=Hd hz2
      go_upto_if 67 with(fail)
      go_cut [6] (fun v wx=>BW W W.heap.size v (if q then[45] else[]) wx)
      case first=>
       as_aux_lemma=>
        cases q
        case false=>
         go_wp2
         go_meet
         exact BW.start W
        case true=>
         go_wp2_with (at_builtin;refine wpList_append_own _ rfl _ _ 202 rfl W.heap.size 5 i0 (.int .u8 0) 1 1 Tryz.underlying202 hi.out hz0.out hz1.out hz2.out rfl (by decide) _ 0 [] rfl (World.ownsRow_nil _ _ _ _) _ 1 _ [.int .u8 45] rfl rfl ?c1 ?c2 ?c3 ?c4 ?c5 ?_)
         case c2=>simp[Value.oneCell']
         case c3=>decide
         intro v' w' h1 h2 _
         go_wp2
         go_meet
         exact(BW.start W).step (Nat.le_refl _) _ 45 h1 h2
      obtain⟨L0,hL0⟩:∃L:List UInt8,(if q then[45] else[])=L:=⟨_,rfl⟩
      rw[hL0]at hcut hv
      have hL0s:L0.length≤1:=by rw[←hL0];cases q<;>decide
      clear hL0
      have k0:=hcut.below
      go_wp2_with fail
      go_loopw [6,7] (fun v6 v7 wr=>∃m:Nat,sc≤m∧m≤H∧v7=.int .i64 ((m:Int)-1)∧BW W W.heap.size v6 (L0++pad (H-m) (vL D / 10 ^ m)) wr) (fun _ v7 _=>(intOf v7+1).toNat)
      case atStart=>
       refine⟨H,by omega,Nat.le_refl _,rfl,?_⟩
       rw[Nat.sub_self,pad,List.append_nil]
       exact hcut
      case round =>
       obtain⟨m,hk1,hk2,rfl,hB⟩:=hrel
       have hB0:=hB.below
       have d0:=(hB0.cell (p:=⟨w.heap.size,0,none⟩) hWs).trans c0
       have d1:=(hB0.cell (p:=⟨w.heap.size,1,none⟩) hWs).trans c1
       have d2:=(hB0.cell (p:=⟨w.heap.size,2,none⟩) hWs).trans c2
       have hBs:=hB0.size
       have hBo:=hB.own
       have hBl:(L0++pad (H-m) (vL D / 10 ^ m)).length≤2000002:=by rw[List.length_append,pad_length];omega
       have hkz:(m:Int)≤2000001:=by omega
       by_cases hks:sc<m
       ·obtain⟨j,rfl⟩:∃j,m=j+1:=⟨m-1,by omega⟩
        have hj1:(sc:Int)≤(j:Int):=by omega
        rw[show(((j+1:Nat):Int)-1)=(j:Int) by omega]
        have hak:=at_any (.slice (some ⟨b,off,none⟩) D.length cap) D (j:Int) wr (hDW.out.below hB0) (by omega) (by omega) (by omega)
        rw[atL_nat]at hak
        have hpad:L0++pad (H-j) (vL D / 10 ^ j)=(L0++pad (H-(j+1)) (vL D / 10 ^ (j+1)))++[dg (D.getD j 0)]:=by
         rw[show H-j=(H-(j+1))+1 by omega,pad,Nat.div_div_eq_div_mul,←Nat.pow_succ,vL_get hD.out,List.append_assoc]
        have hx9:D.getD j 0≤9:=by have:=dgs_getD hD.out j;omega
        generalize L0++pad (H-(j+1)) (vL D / 10 ^ (j+1))=L at *
        generalize D.getD j 0=x at *
        have hdg:(((dg x).toNat:Nat):Int)=48+(x:Int):=by rw[dg_toNat (by omega)];omega
        clear hv hcut k0 ha c0 c1 c2 hcl
        replace hak:=Hd hak
        replace hpad:=Hd hpad
        replace hB:=Hd hB
        replace hdg:=Hd hdg
        go_wp2_with (first|(go_at_call 208;refine hak.out.mono ?_;rintro e w' ⟨rfl,rfl⟩)|(at_builtin;refine wpList_append_own _ rfl _ _ 202 rfl W.heap.size 5 i0 (.int .u8 0) 1 1 Tryz.underlying202 hi.out hz0.out hz1.out hz2.out rfl (by decide) _ L.length (bytesV L) rfl (hBo.alloc _) _ 1 _ [.int .u8 (48+(x:Int))] rfl rfl ?d1 ?d2 ?d3 ?d4 ?d5 ?d6)|fail)
        case d1=>exact newsI_one _ _ _
        case d2=>simp[Value.oneCell']
        case d3=>simp only[maxLen];omega
        case d4=>omega
        case d5=>simp;omega
        case d6=>
         intro v' w1 h1 h2 _
         rw[←hdg.out]at h1
         have hI2:=hB.out.step hBs _ (dg x) h1 h2
         rw[←hpad.out]at hI2
         replace hI2:=Hd hI2
         clear h1 h2
         go_wp2
         refine⟨⟨j,by omega,by omega,rfl,hI2.out⟩,?_⟩
         simp only[intOf]
         omega
       ·obtain rfl:sc=m:=by omega
        obtain⟨L1,hL1⟩:∃L1:List UInt8,L0++pad (H-sc) (vL D / 10 ^ sc)=L1:=⟨_,rfl⟩
        rw[hL1]at hv hB hBo hBl
        clear hL1 hcut k0
        replace hB:=Hd hB
        go_wp2_with (first|(at_builtin;refine wpList_append_own _ rfl _ _ 202 rfl W.heap.size 5 i0 (.int .u8 0) 1 1 Tryz.underlying202 hi.out hz0.out hz1.out hz2.out rfl (by decide) _ L1.length (bytesV L1) rfl (hBo.alloc _) _ 1 _ [.int .u8 (46)] rfl rfl ?e1 ?e2 ?e3 ?e4 ?e5 ?e6)|fail)
        case e1=>exact newsI_one _ _ _
        case e2=>simp[Value.oneCell']
        case e3=>simp only[maxLen];omega
        case e4=>omega
        case e5=>simp;omega
        case e6=>
        intro v' w1 h1 h2 _
        have hI3:=hB.out.step hBs _ 46 h1 h2
        obtain⟨L2,hL2⟩:∃L2:List UInt8,L1++[46]=L2:=⟨_,rfl⟩
        have hL2l:L2.length≤2000003:=by rw[←hL2,List.length_append,List.length_singleton];omega
        have hL2p:0<L2.length:=by rw[←hL2,List.length_append,List.length_singleton];omega
        rw[hL2]at hI3 hv
        clear h1 h2 hB hBo hBl d0 d1 d2 hB0 hL2 hBs
        have k0:=hI3.below
        have d0:=(k0.cell (p:=⟨w.heap.size,0,none⟩) hWs).trans c0
        have d1:=(k0.cell (p:=⟨w.heap.size,1,none⟩) hWs).trans c1
        have d2:=(k0.cell (p:=⟨w.heap.size,2,none⟩) hWs).trans c2
        replace k0:=Hd k0
        replace hI3:=Hd hI3
        go_wp2_with fail
        go_loopw [6,8] (fun v6 v8 wr=>∃m:Nat,k≤m∧m≤sc∧v8=.int .i64 ((m:Int)-1)∧BW W W.heap.size v6 (L2++pad (sc-m) (vL D / 10 ^ m)) wr) (fun _ v8 _=>(intOf v8+1).toNat)
        case atStart=>
         refine⟨sc,by omega,Nat.le_refl _,rfl,?_⟩
         rw[Nat.sub_self,pad,List.append_nil]
         exact hI3.out
        case round=>
         clear d0 d1 d2 k0 hI3
         obtain⟨m,hk3,hk4,rfl,hB⟩:=hrel
         have hB0:=hB.below
         have d0:=(hB0.cell (p:=⟨w.heap.size,0,none⟩) hWs).trans c0
         have d1:=(hB0.cell (p:=⟨w.heap.size,1,none⟩) hWs).trans c1
         have d2:=(hB0.cell (p:=⟨w.heap.size,2,none⟩) hWs).trans c2
         have hBs:=hB0.size
         have hBo:=hB.own
         have hBl:(L2++pad (sc-m) (vL D / 10 ^ m)).length≤4000010:=by rw[List.length_append,pad_length];omega
         have hkz:(m:Int)≤2000001:=by omega
         by_cases hks2:k<m
         ·obtain⟨j,rfl⟩:∃j,m=j+1:=⟨m-1,by omega⟩
          have hj1:(k:Int)≤(j:Int):=by omega
          rw[show(((j+1:Nat):Int)-1)=(j:Int) by omega]
          have hak:=at_any (.slice (some ⟨b,off,none⟩) D.length cap) D (j:Int) wr (hDW.out.below hB0) (by omega) (by omega) (by omega)
          rw[atL_nat]at hak
          have hpad:L2++pad (sc-j) (vL D / 10 ^ j)=(L2++pad (sc-(j+1)) (vL D / 10 ^ (j+1)))++[dg (D.getD j 0)]:=by
           rw[show sc-j=(sc-(j+1))+1 by omega,pad,Nat.div_div_eq_div_mul,←Nat.pow_succ,vL_get hD.out,List.append_assoc]
          have hx9:D.getD j 0≤9:=by have:=dgs_getD hD.out j;omega
          generalize L2++pad (sc-(j+1)) (vL D / 10 ^ (j+1))=L at *
          generalize D.getD j 0=x at *
          have hdg:(((dg x).toNat:Nat):Int)=48+(x:Int):=by rw[dg_toNat (by omega)];omega
          clear hv ha c0 c1 c2 hcl
          replace hak:=Hd hak
          replace hpad:=Hd hpad
          replace hB:=Hd hB
          replace hdg:=Hd hdg
          go_wp2_with (first|(go_at_call 208;refine hak.out.mono ?_;rintro e w' ⟨rfl,rfl⟩)|(at_builtin;refine wpList_append_own _ rfl _ _ 202 rfl W.heap.size 5 i0 (.int .u8 0) 1 1 Tryz.underlying202 hi.out hz0.out hz1.out hz2.out rfl (by decide) _ L.length (bytesV L) rfl (hBo.alloc _) _ 1 _ [.int .u8 (48+(x:Int))] rfl rfl ?f1 ?f2 ?f3 ?f4 ?f5 ?f6)|fail)
          case f1=>exact newsI_one _ _ _
          case f2=>simp[Value.oneCell']
          case f3=>simp only[maxLen];omega
          case f4=>omega
          case f5=>simp;omega
          case f6=>
           intro v' w1 h1 h2 _
           rw[←hdg.out]at h1
           have hI2:=hB.out.step hBs _ (dg x) h1 h2
           rw[←hpad.out]at hI2
           replace hI2:=Hd hI2
           clear h1 h2
           go_wp2
           refine⟨⟨j,by omega,by omega,rfl,hI2.out⟩,?_⟩
           simp only[intOf]
           omega
         ·obtain rfl:k=m:=by omega
          by_cases hz5:k=sc
          ·subst hz5
           rw[if_pos rfl]at hv
           rw[Nat.sub_self,pad,List.append_nil]at hB hBo hBl
           replace hB:=Hd hB
           replace hv:=Hd hv
           go_wp2_with (first|(at_builtin;refine wpList_append_own _ rfl _ _ 202 rfl W.heap.size 5 i0 (.int .u8 0) 1 1 Tryz.underlying202 hi.out hz0.out hz1.out hz2.out rfl (by decide) _ L2.length (bytesV L2) rfl (hBo.alloc _) _ 1 _ [.int .u8 (48)] rfl rfl ?g1 ?g2 ?g3 ?g4 ?g5 ?g6)|fail)
           case g1=>exact newsI_one _ _ _
           case g2=>simp[Value.oneCell']
           case g3=>simp only[maxLen];omega
           case g4=>omega
           case g5=>simp;omega
           case g6=>
            intro v' w1 h1 h2 _
            have hI4:=hB.out.step hBs _ 48 h1 h2
            obtain⟨L4,hL4⟩:∃L4:List UInt8,L2++[48]=L4:=⟨_,rfl⟩
            have hL4p:0<L4.length:=by rw[←hL4,List.length_append,List.length_singleton];omega
            have hv4:=hv.out
            rw[hL4]at hI4 hv4
            replace hv4:=Hd hv4
            clear hv hL4
            obtain⟨g,cp,rfl,hcb⟩:=hI4.conv hL4p
            have hbe:=hI4.below
            replace hbe:=Hd hbe
            clear h1 h2 hI4
            go_wp2
            go_ret2
            refine⟨?_,hbw.out.trans (hbe.out.mono (by omega))⟩
            rw[hv4.out]
            rfl
          ·have hzi:((k:Int)==(sc:Int))=false:=beq_eq_false_iff_ne.2 (by omega)
           rw[if_neg hz5]at hv
           obtain⟨L3,hL3⟩:∃L3:List UInt8,L2++pad (sc-k) (vL D / 10 ^ k)=L3:=⟨_,rfl⟩
           have hL3p:0<L3.length:=by rw[←hL3,List.length_append];omega
           rw[hL3]at hB hBo hBl hv
           obtain⟨g,cp,rfl,hcb⟩:=hB.conv hL3p
           clear hL3 hBo
           replace hv:=Hd hv
           replace hB0:=Hd hB0
           replace hB:=Hd hB
           go_wp2
           go_ret2
           refine⟨?_,hbw.out.trans (hB0.out.mono (by omega))⟩
           rw[hv.out]
           rfl
end Go.Proofs.YtcaeipdgbaligaaGreatDoor.dec
