/- Texts RefTofA, RefSums, one behind the other. -/
import Derived.Test.YtidplkfhodpdhaaGreatDoorDecC
set_option linter.unusedSimpArgs false
set_option linter.unusedVariables false
set_option maxRecDepth 100000
set_option maxHeartbeats 4000000
namespace Go.Proofs.YtidplkfhodpdhaaGreatDoor.dec
theorem dd0(d:Nat)(h:d<10):Lib.decDigits d=[dg d]:=by rw[Lib.decDigits,dif_pos h];rfl
theorem tell_step(M:Nat)(s t:List UInt8)(h:Lib.decDigits M++s=t):(M<10→dg (M % 10)::s=t)∧(10≤M→Lib.decDigits (M / 10)++(dg (M % 10)::s)=t):=by
 constructor
 ·intro hm
  rw[←h,dd0 M hm,Nat.mod_eq_of_lt hm];rfl
 ·intro hm
  rw[←h,Lib.decDigits.eq_1 M,dif_neg (by omega)]
  simp[dg]
open Go.ChangeShapes Go.WideShapes Go.ChangeAt Go.RowKit kit
structure OI(n m:Int)(s:ByteArray)(w wr:World):Prop where
 tell:Lib.decDigits m.natAbs++s.data.toList=Lib.decDigits n.natAbs
 lo:-9223372036854775808≤m
 hi:m≤9223372036854775807
 below:Below w.heap.size w wr
theorem tmod10(m:Int):(m<0→m.tmod 10=-((m.natAbs % 10:Nat):Int))∧(0≤m→m.tmod 10=((m.natAbs % 10:Nat):Int)):=by
 constructor
 ·intro h
  conv=>lhs;rw[show m=-((m.natAbs:Nat):Int) by omega,Int.neg_tmod]
  rfl
 ·intro h
  conv=>lhs;rw[show m=((m.natAbs:Nat):Int) by omega]
  rfl
theorem tdiv10(m:Int):(m.tdiv 10).natAbs=m.natAbs / 10:=by
 rw[Int.natAbs_tdiv];rfl
theorem tdiv10_in(m:Int)(h0:-9223372036854775808≤m)(h1:m≤9223372036854775807):-9223372036854775808≤m.tdiv 10∧m.tdiv 10≤9223372036854775807:=by
 have:=tdiv10 m
 omega
theorem dec_len(n:Int)(h0:-9223372036854775808≤n)(h1:n≤9223372036854775807):(Lib.decDigits n.natAbs).length≤62:=by
 have h2:=canon_len (n * E20) (ofInt_small n h0 h1)
 rw[←itoa_canon n,List.length_append]at h2
 unfold Lib.itoa at h2
 split at h2
 ·simp at h2;omega
 ·rw[show n.toNat=n.natAbs by omega]at h2;simp at h2;omega
theorem rofInt_any(n:Int)(w:World)(h0:-9223372036854775808≤n)(h1:n≤9223372036854775807):
 Calls Tryz.prog 149 #[.int .i64 n] w fun e w'=>e=.returned (.string (tx (canon (n * E20))))∧Below w.heap.size w w':=by
 have hci:=itoa_canon n
 have hdl:=dec_len n h0 h1
 generalize canon (n * E20)=R at *
 have hneg:n<0→∀s:ByteArray,s.data.toList=Lib.decDigits n.natAbs→(⟨#[45]⟩++s)++⟨#[46,48]⟩=tx R:=fun h s hs=>by
  apply ba_ext
  rw[←hci]
  unfold Lib.itoa
  rw[if_pos h,←hs]
  simp
 have hpos:¬n<0→∀s:ByteArray,s.data.toList=Lib.decDigits n.natAbs→s++⟨#[46,48]⟩=tx R:=fun h s hs=>by
  apply ba_ext
  rw[←hci]
  unfold Lib.itoa
  rw[if_neg h,show n.toNat=n.natAbs by omega,←hs]
  simp
 clear hci
 replace hneg:=Hd hneg
 replace hpos:=Hd hpos
 go_enter Tryz.func149,Tryz.ntmps149
 go_wp2
 go_loopw [3,4] (fun v3 v4 wr=>∃(m:Int) (s:ByteArray),v3=.string s∧v4=.int .i64 m∧Hid (OI n m s w wr)) (fun _ v4 _=>(intOf v4).natAbs)
 case atStart=>exact⟨n,_,rfl,rfl,⟨by show _++[]=_;rw[List.append_nil],h0,h1,Below.refl _ _⟩⟩
 case round =>
  obtain⟨m,s,rfl,rfl,hr⟩:=hrel
  obtain⟨ht,m0,m1,hbe⟩:=hr.out
  have hss:s.size≤62:=by
   have:=congrArg List.length ht
   rw[List.length_append]at this
   have:s.data.toList.length=s.size:=by simp
   omega
  obtain⟨d,hd⟩:∃d:Nat,m.natAbs % 10=d:=⟨_,rfl⟩
  have hd10:d<10:=by omega
  have hst:=tell_step m.natAbs s.data.toList _ ht
  have hm1:=tmod10 m
  have hq1:=tdiv10 m
  have hq2:=tdiv10_in m m0 m1
  rw[hd]at hst hm1
  have hdi:(d:Int)<10:=by omega
  replace hr:=Hd hr
  replace ht:=Hd ht
  replace hst:=Hd hst
  replace hbe:=Hd hbe
  go_upto_if 10 with(fail)
  go_cut [5] (fun v wx=>v=.int .i64 d∧wx=wr)
  case first=>
   as_aux_lemma=>
    by_cases hm:m<0
    ·have e:=hm1.1 hm
     by_cases hd0:d=0
     ·have e2:m.tmod 10=0:=by omega
      rw[e2]
      subst hd0
      go_wp2
      go_meet
      exact⟨rfl,rfl⟩
     ·have e2:m.tmod 10<0:=by omega
      go_wp2
      go_meet
      first|exact⟨by rw[e];congr 1;omega,rfl⟩|exact⟨rfl,rfl⟩
    ·have e:=hm1.2 (by omega)
     have e2:¬m.tmod 10<0:=by omega
     rw[e]at e2 ⊢
     go_wp2
     go_meet
     exact⟨rfl,rfl⟩
  obtain⟨rfl,hwx⟩:=hcut
  rw[hwx];clear hwx
  have hcb:(convert 100 9 (.slice (some ⟨wr.heap.size,0,none⟩) 1 1)).run Tryz.prog (wr.alloc (.cells #[.int .u8 (48+(d:Int))] 5))=.ok (.string ⟨#[dg d]⟩) (wr.alloc (.cells #[.int .u8 (48+(d:Int))] 5)):=
   run_convert_bytes_back (P:=Tryz.prog) (wr.alloc (.cells #[.int .u8 (48+(d:Int))] 5)) 100 9 5 ⟨wr.heap.size,0,none⟩ 1 [dg d] Tryz.underlying100 Tryz.underlying5 Tryz.underlying9 (fun j hj=>by
    obtain rfl:j=0:=by simpa using hj
    rw[news_one wr (.int .u8 (48+(d:Int))) 5 0 _ rfl]
    simp[dg_toNat hd10])
  have hsz:((⟨#[dg d]⟩:ByteArray).size:Int)+(s.size:Int)≤9223372036854775807:=by
   have:(⟨#[dg d]⟩:ByteArray).size=1:=rfl
   rw[this];omega
  have hbe2:=Hd (hbe.out.alloc hbe.out.size (.cells #[.int .u8 (48+(d:Int))] 5))
  obtain⟨s2,hs2⟩:∃s2:ByteArray,(⟨#[dg d]⟩:ByteArray)++s=s2:=⟨_,rfl⟩
  have hs2l:s2.data.toList=dg d::s.data.toList:=by rw[←hs2];simp
  have hs2s:s2.size≤63:=by
   have:=congrArg List.length hs2l
   have e1:s2.data.toList.length=s2.size:=by simp
   have e2:s.data.toList.length=s.size:=by simp
   rw[List.length_cons]at this
   omega
  rw[←hs2l]at hst
  clear hs2l
  replace hs2:=Hd hs2
  go_upto_region 7 with(fail)
  generalize wr.alloc (.cells #[.int .u8 (48+(d:Int))] 5)=w2 at *
  clear hcb
  rw[hs2.out]
  clear hs2
  by_cases hz:m.natAbs<10
  ·have e:m.tdiv 10=0:=by omega
   have hdone:=hst.out.1 hz
   clear hq1 hq2 hst hm1 hr ht
   by_cases hn:n<0
   ·have hR:=hneg.out hn s2 hdone
    have z1:((⟨#[45]⟩:ByteArray).size:Int)+(s2.size:Int)≤9223372036854775807:=by
     have:(⟨#[45]⟩:ByteArray).size=1:=rfl
     rw[this];omega
    have z2:(((⟨#[45]⟩:ByteArray)++s2).size:Int)+((⟨#[46,48]⟩:ByteArray).size:Int)≤9223372036854775807:=by
     have h3:(⟨#[45]⟩:ByteArray).size=1:=rfl
     have h4:(⟨#[46,48]⟩:ByteArray).size=2:=rfl
     rw[ByteArray.size_append,h3,h4];omega
    replace hR:=Hd hR
    go_wp2
    go_ret
    exact⟨by rw[hR.out];rfl,hbe2.out⟩
   ·have hR:=hpos.out (by omega) s2 hdone
    have z2:(s2.size:Int)+((⟨#[46,48]⟩:ByteArray).size:Int)≤9223372036854775807:=by
     have h4:(⟨#[46,48]⟩:ByteArray).size=2:=rfl
     rw[h4];omega
    replace hR:=Hd hR
    go_wp2
    go_ret
    exact⟨by rw[hR.out];rfl,hbe2.out⟩
  ·have e:(m.tdiv 10==0)=false:=beq_eq_false_iff_ne.2 (by omega)
   have hnx:OI n (m.tdiv 10) s2 w w2:=⟨by rw[hq1];exact hst.out.2 (by omega),hq2.1,hq2.2,hbe2.out⟩
   replace hnx:=Hd hnx
   have hlt2:(m.tdiv 10).natAbs<m.natAbs:=by omega
   clear hst hm1 hr ht
   go_wp2
   go_roundw
   case rel=>exact⟨m.tdiv 10,s2,rfl,rfl,hnx⟩
   case measure=>exact hlt2
end Go.Proofs.YtidplkfhodpdhaaGreatDoor.dec
set_option linter.unusedSimpArgs false
set_option linter.unusedVariables false
set_option maxRecDepth 100000
set_option maxHeartbeats 4000000
namespace Go.Proofs.YtidplkfhodpdhaaGreatDoor.dec
open Go.ChangeShapes Go.WideShapes Go.ChangeAt Go.RowKit kit
def colS(A B:List Nat)(k c:Nat):Nat:=A.getD k 0+B.getD k 0+c
theorem dgs_snoc{L:List Nat}(h:dgs L){d:Nat}(hd:d<10):dgs (L++[d]):=by
 intro x hx
 rw[List.mem_append,List.mem_singleton]at hx
 rcases hx with hx|rfl
 ·exact h x hx
 ·exact hd
theorem vL_snoc(L:List Nat)(d:Nat):vL (L++[d])=vL L+10 ^ L.length * d:=by rw[vL_append];simp[vL]
theorem mod_step(A:List Nat)(hA:dgs A)(k:Nat):vL A % 10 ^ (k+1)=vL A % 10 ^ k+10 ^ k * A.getD k 0:=by
 rw[Nat.pow_succ,Nat.mod_mul,vL_get hA]
theorem add_col{A B L:List Nat}(hA:dgs A)(hB:dgs B)(k c:Nat)(hl:L.length=k)(h:vL L+10 ^ k * c=vL A % 10 ^ k+vL B % 10 ^ k):
 vL (L++[colS A B k c % 10])+10 ^ (k+1) * (colS A B k c / 10)=vL A % 10 ^ (k+1)+vL B % 10 ^ (k+1):=by
 rw[vL_snoc,hl,mod_step A hA,mod_step B hB]
 have e:10 ^ (k+1) * (colS A B k c / 10)=10 ^ k * (10 * (colS A B k c / 10)):=by rw[Nat.pow_succ,Nat.mul_assoc]
 have e2:10 ^ k * (colS A B k c % 10)+10 ^ k * (10 * (colS A B k c / 10))=10 ^ k * colS A B k c:=by rw[←Nat.mul_add,Nat.mod_add_div]
 have e3:10 ^ k * colS A B k c=10 ^ k * A.getD k 0+10 ^ k * B.getD k 0+10 ^ k * c:=by rw[colS,Nat.mul_add,Nat.mul_add]
 omega
theorem add_end{A B L:List Nat}(hA:dgs A)(hB:dgs B)(k c:Nat)(hk:A.length≤k)(hk2:B.length≤k)(hc:c=0)(h:vL L+10 ^ k * c=vL A % 10 ^ k+vL B % 10 ^ k):vL L=vL A+vL B:=by
 have a:=vL_lt hA
 have b:=vL_lt hB
 have p1:10 ^ A.length≤10 ^ k:=Nat.pow_le_pow_right (by decide) hk
 have p2:10 ^ B.length≤10 ^ k:=Nat.pow_le_pow_right (by decide) hk2
 rw[Nat.mod_eq_of_lt (by omega),Nat.mod_eq_of_lt (by omega),hc]at h
 omega
theorem radd_any(va vb:Value)(A B:List Nat)(w:World)(hva:IntsAt w va A)(hvb:IntsAt w vb B)(hA:dgs A)(hB:dgs B)(la:A.length≤100000)(lb:B.length≤100000):
 Calls Tryz.prog 175 #[va,vb] w fun e w'=>∃v D,e=.returned v∧IW w w.heap.size v D w'∧dgs D∧vL D=vL A+vL B∧A.length≤D.length∧B.length≤D.length∧D.length≤A.length+B.length+1∧(D.length≤A.length∨D.length≤B.length∨10 ^ (D.length-1)≤vL D):=by
 obtain⟨ao,ca,rfl⟩:=hva.form
 obtain⟨bo,cb,rfl⟩:=hvb.form
 have lai:(A.length:Int)≤100000:=by omega
 have lbi:(B.length:Int)≤100000:=by omega
 replace hva:=Hd hva
 replace hvb:=Hd hvb
 replace hA:=Hd hA
 replace hB:=Hd hB
 obtain⟨i0,hi,hx⟩:=Option.map_eq_some_iff.1 infoInt
 simp only[Prod.mk.injEq]at hx
 obtain⟨hz0,hz1,hz2⟩:=hx
 replace hi:=Hd hi
 replace hz0:=Hd hz0
 replace hz1:=Hd hz1
 replace hz2:=Hd hz2
 go_enter Tryz.func175,Tryz.ntmps175
 go_wp2
 go_loopw [5,6,7] (fun v5 v6 v7 wr=>∃(k c:Nat) (L:List Nat),v7=.int .i64 k∧v6=.int .i64 c∧Hid (L.length=k∧dgs L∧c≤1∧(k≤A.length∨k≤B.length∨(c=0∧k≤A.length+B.length+1∧10 ^ (k-1)≤vL L))∧vL L+10 ^ k * c=vL A % 10 ^ k+vL B % 10 ^ k)∧IW w w.heap.size v5 L wr) (fun _ _ v7 _=>A.length+B.length+2-(intOf v7).toNat)
 case atStart=>exact⟨0,0,[],rfl,rfl,⟨rfl,fun _ h=>by simp at h,by omega,by omega,by simp[vL,Nat.mod_one]⟩,IW.start w _⟩
 case round =>
  obtain⟨k,c,L,rfl,rfl,hL,hI⟩:=hrel
  have hki:(k:Int)≤300000:=by have:=hL.out.2.2.2.1;omega
  have hci:(c:Int)≤1:=by have:=hL.out.2.2.1;omega
  obtain⟨q,hq⟩:∃q:Bool,decide (k<A.length∨k<B.length∨0<c)=q:=⟨_,rfl⟩
  replace hq:=Hd hq
  go_upto_region 4 with(fail)
  go_cut [22] (fun v wx=>v=.bool q∧wx=wr)
  case first =>
   as_aux_lemma=>
    by_cases h1:k<A.length
    ·have h1i:(k:Int)<(A.length:Int):=by omega
     obtain rfl:true=q:=by rw[←hq.out];exact(decide_eq_true (.inl h1)).symm
     go_wp2
     go_meet
     exact⟨rfl,rfl⟩
    ·have h1i:¬(k:Int)<(A.length:Int):=by omega
     by_cases h2:k<B.length
     ·have h2i:(k:Int)<(B.length:Int):=by omega
      obtain rfl:true=q:=by rw[←hq.out];exact(decide_eq_true (.inr (.inl h2))).symm
      go_wp2
      go_meet
      exact⟨rfl,rfl⟩
     ·have h2i:¬(k:Int)<(B.length:Int):=by omega
      by_cases h3:0<c
      ·have h3i:0<(c:Int):=by omega
       obtain rfl:true=q:=by rw[←hq.out];exact(decide_eq_true (.inr (.inr h3))).symm
       go_wp2
       go_meet
       exact⟨rfl,rfl⟩
      ·have h3i:¬0<(c:Int):=by omega
       obtain rfl:false=q:=by rw[←hq.out];exact(decide_eq_false (fun e=>e.elim h1 (fun e=>e.elim h2 h3))).symm
       go_wp2
       go_meet
       exact⟨rfl,rfl⟩
  obtain⟨rfl,hwx⟩:=hcut
  rw[hwx];clear hwx
  cases q
  case true =>
   have hq2:=of_decide_eq_true hq.out
   have hak:=at_any (.slice ao A.length ca) A (k:Int) wr (hva.out.below hI.below) (by omega) (by omega) (by omega)
   have hbk:=at_any (.slice bo B.length cb) B (k:Int) wr (hvb.out.below hI.below) (by omega) (by omega) (by omega)
   rw[atL_nat]at hak hbk
   have hcol:=add_col hA.out hB.out k c hL.out.1 hL.out.2.2.2.2
   have hx9:A.getD k 0≤9:=by have:=dgs_getD hA.out k;omega
   have hy9:B.getD k 0≤9:=by have:=dgs_getD hB.out k;omega
   have hc1:c≤1:=hL.out.2.2.1
   have hL':Hid ((L++[colS A B k c % 10]).length=k+1∧dgs (L++[colS A B k c % 10])∧colS A B k c / 10≤1∧(k+1≤A.length∨k+1≤B.length∨(colS A B k c / 10=0∧k+1≤A.length+B.length+1∧10 ^ (k+1-1)≤vL (L++[colS A B k c % 10])))∧vL (L++[colS A B k c % 10])+10 ^ (k+1) * (colS A B k c / 10)=vL A % 10 ^ (k+1)+vL B % 10 ^ (k+1)):=by
    refine⟨by simp[hL.out.1],dgs_snoc hL.out.2.1 (Nat.mod_lt _ (by decide)),by unfold colS;omega,?_,hcol⟩
    by_cases e1:k<A.length
    ·exact .inl (by omega)
    ·by_cases e2:k<B.length
     ·exact .inr (.inl (by omega))
     ·have hcs:colS A B k c=c:=by
       unfold colS
       rw[List.getD_eq_getElem?_getD,List.getD_eq_getElem?_getD,List.getElem?_eq_none (by omega),List.getElem?_eq_none (by omega)]
       simp
      have hc0:c=1:=by omega
      refine .inr (.inr ⟨by omega,?_,?_⟩)
      ·have:=hL.out.2.2.2.1
       omega
      ·rw[hcs,hc0,vL_snoc,hL.out.1,Nat.add_sub_cancel];omega
   clear hcol
   have hr:((A.getD k 0:Nat):Int)+((B.getD k 0:Nat):Int)+(c:Int)=((colS A B k c:Nat):Int):=by unfold colS;omega
   have hr1:colS A B k c≤19:=by unfold colS;omega
   generalize colS A B k c=n at *
   generalize A.getD k 0=x at *
   generalize B.getD k 0=y at *
   clear hq
   replace hak:=Hd hak
   replace hbk:=Hd hbk
   replace hr:=Hd hr
   have hLl:L.length=k:=hL.out.1
   have hIs:=hI.below.size
   go_wp2_with (first|(go_at_call_of 184 (Value.slice ao A.length ca);refine hak.out.mono ?_;rintro e w' ⟨rfl,rfl⟩)|(go_at_call 184;refine hbk.out.mono ?_;rintro e w' ⟨rfl,rfl⟩)|(at_builtin;refine wpList_append_own _ rfl _ _ 40 rfl w.heap.size 3 i0 (.int .i64 0) 1 8 Tryz.underlying40 hi.out hz0.out hz1.out hz2.out rfl (by decide) _ L.length (intsV L) rfl (hI.own.alloc _) _ 1 _ [.int .i64 (((x:Int)+(y:Int)+(c:Int)) % 10)] rfl rfl ?c1 ?c2 ?c3 ?c4 ?c5 ?c6)|fail)
   case c1=>exact news_one _ _ _
   case c2=>simp[Value.oneCell']
   case c3=>rw[hLl];simp only[maxLen];omega
   case c4=>rw[hLl];omega
   case c5=>simp;omega
   case c6=>
    intro v' w1 h1 h2 _
    rw[show((x:Int)+(y:Int)+(c:Int)) % 10=((n % 10:Nat):Int) by rw[hr.out];rfl]at h1
    rw[←hLl]at h1
    have hI2:=hI.step hIs _ (n % 10) h1 h2
    go_wp2
    refine⟨⟨k+1,n / 10,L++[n % 10],congrArg _ (by omega),congrArg _ (by rw[hr.out];rfl),hL',hI2⟩,?_⟩
    have:=hL.out.2.2.2.1
    simp only[intOf]
    omega
  case false=>
   have hq3:=of_decide_eq_false hq.out
   have hend:=add_end hA.out hB.out k c (by omega) (by omega) (by omega) hL.out.2.2.2.2
   go_wp2
   go_ret
   exact⟨_,L,rfl,hI,hL.out.2.1,hend,by have:=hL.out.1;omega,by have:=hL.out.1;omega,by have:=hL.out;omega,by rw[hL.out.1];rcases hL.out.2.2.2.1 with h|h|h;exact .inl h;exact .inr (.inl h);exact .inr (.inr h.2.2)⟩
theorem below_drewN{B:Nat}{a w:World}(h:Below B a w)(n:Nat):Below B a (w.drewN n):=⟨h.os,h.tape,h.output,h.size,h.block⟩
theorem IntsAt.drewN{w:World}{v:Value}{D:List Nat}(h:IntsAt w v D)(n:Nat):IntsAt (w.drewN n) v D:=h.below (below_drewN (Below.refl _ _) n)
theorem IW.drewN{W W1:World}{B:Nat}{v:Value}{l:List Nat}(h:IW W B v l W1)(n:Nat):IW W B v l (W1.drewN n):=⟨below_drewN h.below n,h.own⟩
theorem sub_col{A B L:List Nat}(hA:dgs A)(hB:dgs B)(k c d c':Nat)(hl:L.length=k)(hd:d+B.getD k 0+c=A.getD k 0+10 * c')(h:vL L+vL B % 10 ^ k=vL A % 10 ^ k+10 ^ k * c):
 vL (L++[d])+vL B % 10 ^ (k+1)=vL A % 10 ^ (k+1)+10 ^ (k+1) * c':=by
 rw[vL_snoc,hl,mod_step A hA,mod_step B hB]
 have e:10 ^ (k+1) * c'=10 ^ k * (10 * c'):=by rw[Nat.pow_succ,Nat.mul_assoc]
 have e2:10 ^ k * (d+B.getD k 0+c)=10 ^ k * (A.getD k 0+10 * c'):=by rw[hd]
 rw[Nat.mul_add,Nat.mul_add,Nat.mul_add]at e2
 omega
theorem sub_end{A B L:List Nat}(hA:dgs A)(hB:dgs B)(hL:dgs L)(c:Nat)(hl:L.length=A.length)(hle:vL B≤vL A)(h:vL L+vL B % 10 ^ A.length=vL A % 10 ^ A.length+10 ^ A.length * c):vL L+vL B=vL A:=by
 have a:=vL_lt hA
 have b:=vL_lt hL
 rw[hl]at b
 rw[Nat.mod_eq_of_lt (by omega),Nat.mod_eq_of_lt a]at h
 cases c with
 |zero=>omega
 |succ c=>rw[Nat.mul_add]at h;omega
theorem rsub_any(va vb:Value)(A B:List Nat)(w:World)(hva:IntsAt w va A)(hvb:IntsAt w vb B)(hA:dgs A)(hB:dgs B)(hle:vL B≤vL A)(la:A.length≤100000)(lb:B.length≤100000):
 Calls Tryz.prog 177 #[va,vb] w fun e w'=>∃v D,e=.returned v∧IW w w.heap.size v D w'∧dgs D∧vL D+vL B=vL A∧D.length=A.length:=by
 obtain⟨ao,ca,rfl⟩:=hva.form
 obtain⟨bo,cb,rfl⟩:=hvb.form
 have lai:(A.length:Int)≤100000:=by omega
 have lbi:(B.length:Int)≤100000:=by omega
 replace hva:=Hd hva
 replace hvb:=Hd hvb
 replace hA:=Hd hA
 replace hB:=Hd hB
 obtain⟨i0,hi,hx⟩:=Option.map_eq_some_iff.1 infoInt
 simp only[Prod.mk.injEq]at hx
 obtain⟨hz0,hz1,hz2⟩:=hx
 replace hi:=Hd hi
 replace hz0:=Hd hz0
 replace hz1:=Hd hz1
 replace hz2:=Hd hz2
 go_enter Tryz.func177,Tryz.ntmps177
 go_wp2
 go_loopw [5,6,7] (fun v5 v6 v7 wr=>∃(k c:Nat) (L:List Nat),v7=.int .i64 k∧v6=.int .i64 c∧Hid (L.length=k∧dgs L∧c≤1∧k≤A.length∧vL L+vL B % 10 ^ k=vL A % 10 ^ k+10 ^ k * c)∧IW w w.heap.size v5 L wr) (fun _ _ v7 _=>A.length-(intOf v7).toNat)
 case atStart=>exact⟨0,0,[],rfl,rfl,⟨rfl,fun _ h=>by simp at h,by omega,by omega,by simp[vL,Nat.mod_one]⟩,IW.start w _⟩
 case round=>
  obtain⟨k,c,L,rfl,rfl,hL,hI⟩:=hrel
  have hkl:=hL.out.2.2.2.1
  have hki:(k:Int)≤100000:=by omega
  have hci:(c:Int)≤1:=by have:=hL.out.2.2.1;omega
  by_cases hk:k<A.length
  ·have hk':(k:Int)<(A.length:Int):=by omega
   rcases hva.out.below hI.below with⟨_,e⟩|⟨ba,oa,cpa,e,hlt,hcells⟩
   ·rw[e]at hk;simp at hk
   have hcell:=hcells k hk
   rw[Value.slice.injEq]at e
   obtain⟨rfl,-,rfl⟩:=e
   have hbk:=fun n=>at_any (.slice bo B.length cb) B (k:Int) (wr.drewN n) ((hvb.out.below hI.below).drewN n) (by omega) (by omega) (by omega)
   rw[atL_nat]at hbk
   have hx9:A.getD k 0≤9:=by have:=dgs_getD hA.out k;omega
   have hy9:B.getD k 0≤9:=by have:=dgs_getD hB.out k;omega
   have hc1:c≤1:=hL.out.2.2.1
   have hLl:L.length=k:=hL.out.1
   have hIs:=hI.below.size
   have hcol:=fun d c' h=>sub_col hA.out hB.out k c d c' hL.out.1 h hL.out.2.2.2.2
   have hdL:=hL.out.2.1
   clear hcells hL
   generalize A.getD k 0=x at *
   generalize B.getD k 0=y at *
   replace hbk:=Hd hbk
   replace hcol:=Hd hcol
   replace hdL:=Hd hdL
   go_wp2_with fail
   go_quiet ((go_at_call 184;exact Calls.quiet_of_same (hbk.out _)))
   by_cases hneg:x<y+c
   ·have hnegi:(x:Int)-(y:Int)-(c:Int)<0:=by omega
    go_wp2_with (first|(at_builtin;refine wpList_append_own _ rfl _ _ 40 rfl w.heap.size 3 i0 (.int .i64 0) 1 8 Tryz.underlying40 hi.out hz0.out hz1.out hz2.out rfl (by decide) _ L.length (intsV L) rfl ((hI.drewN _).own.alloc _) _ 1 _ [.int .i64 (((x:Int)-(y:Int)-(c:Int))+10)] rfl rfl ?a1 ?a2 ?a3 ?a4 ?a5 ?a6)|fail)
    case a1=>first|exact news_one _ _ _|exact news_two _ _ _
    case a2=>simp[Value.oneCell']
    case a3=>simp only[maxLen];omega
    case a4=>omega
    case a5=>first|omega|(simp;omega)
    case a6=>
     intro v' w1 h1 h2 _
     rw[show(x:Int)-(y:Int)-(c:Int)+10=((x+10-y-c:Nat):Int) by omega,←hLl]at h1
     have hI2:=(hI.drewN _).step hIs _ (x+10-y-c) h1 h2
     have hc2:=hcol.out (x+10-y-c) 1 (by omega)
     go_wp2
     refine⟨⟨k+1,1,L++[x+10-y-c],congrArg _ (by omega),rfl,⟨by simp[hLl],dgs_snoc hdL.out (by omega),by omega,by omega,hc2⟩,hI2⟩,?_⟩
     simp only[intOf]
     omega
   ·have hnegi:¬((x:Int)-(y:Int)-(c:Int)<0):=by omega
    go_wp2_with (first|(at_builtin;refine wpList_append_own _ rfl _ _ 40 rfl w.heap.size 3 i0 (.int .i64 0) 1 8 Tryz.underlying40 hi.out hz0.out hz1.out hz2.out rfl (by decide) _ L.length (intsV L) rfl ((hI.drewN _).own.alloc _) _ 1 _ [.int .i64 ((x:Int)-(y:Int)-(c:Int))] rfl rfl ?b1 ?b2 ?b3 ?b4 ?b5 ?b6)|fail)
    case b1=>first|exact news_one _ _ _|exact news_two _ _ _
    case b2=>simp[Value.oneCell']
    case b3=>simp only[maxLen];omega
    case b4=>omega
    case b5=>first|omega|(simp;omega)
    case b6=>
     intro v' w1 h1 h2 _
     rw[show(x:Int)-(y:Int)-(c:Int)=((x-y-c:Nat):Int) by omega,←hLl]at h1
     have hI2:=(hI.drewN _).step hIs _ (x-y-c) h1 h2
     have hc2:=hcol.out (x-y-c) 0 (by omega)
     go_wp2
     refine⟨⟨k+1,0,L++[x-y-c],congrArg _ (by omega),rfl,⟨by simp[hLl],dgs_snoc hdL.out (by omega),by omega,by omega,hc2⟩,hI2⟩,?_⟩
     simp only[intOf]
     omega
  ·have hk':¬(k:Int)<(A.length:Int):=by omega
   have hke:k=A.length:=by omega
   have hend:=sub_end hA.out hB.out hL.out.2.1 c (by rw[hL.out.1,hke]) hle (by rw[←hke];exact hL.out.2.2.2.2)
   go_wp2
   go_ret
   exact⟨_,rfl,L,hI,hL.out.2.1,hend,by rw[hL.out.1,hke]⟩
theorem made_ints(n:Nat):(madeCells #[Value.int .i64 0] n).toList=intsV (List.replicate n 0):=by
 apply List.ext_getElem
 ·simp[madeCells,intsV,Value.cells]
 ·intro i h1 h2
  simp[madeCells,intsV,Value.cells,Nat.mod_one]
theorem IW.made{W W1 w':World}{B n:Nat}{v:Value}(hb:Below B W W1)(hB:B≤W1.heap.size)(h1:w'.ownsRow B 3 1 v n (madeCells #[Value.int .i64 0] n).toList)(h2:W1.grownBy w' none):IW W B v (List.replicate n 0) w':=by
 refine⟨hb.grown h2 hB (fun k hk=>by cases hk),?_⟩
 rw[List.length_replicate,←made_ints]
 exact h1
theorem IW.more{W W1 w':World}{B:Nat}{v v':Value}{l m:List Nat}(h:IW W B v l W1)(hB:B≤W1.heap.size)
 (h1:w'.ownsRow B 3 1 v' (l.length+m.length) (intsV l++intsV m))(h2:W1.grownBy w' v.ownBlock):IW W B v' (l++m) w':=by
 refine⟨h.below.grown h2 hB (fun k hk=>(h.own.lt k hk).1),?_⟩
 rw[List.length_append]
 simpa[intsV]using h1
theorem intsV_one(D:List Nat):∀u∈intsV D,u.oneCell'=true:=by
 intro u hu
 rw[intsV,List.mem_map]at hu
 obtain⟨d,_,rfl⟩:=hu
 rfl
theorem vL_pad(k:Nat)(D:List Nat):vL (List.replicate k 0++D)=10 ^ k * vL D:=by
 rw[vL_append,List.length_replicate,vL_zero.2 (fun d hd=>List.eq_of_mem_replicate hd)];omega
theorem dgs_pad(k:Nat){D:List Nat}(h:dgs D):dgs (List.replicate k 0++D):=by
 intro d hd
 rw[List.mem_append]at hd
 rcases hd with hd|hd
 ·rw[List.eq_of_mem_replicate hd];decide
 ·exact h d hd
theorem rscaled_any(neg:Bool)(va:Value)(D:List Nat)(sc s:Nat)(w:World)(hva:IntsAt w va D)(hn:1≤D.length)(la:D.length≤100000)(hs:sc≤s)(hs1:s≤100000):
 Calls Tryz.prog 174 #[.agg #[.bool neg,va,.int .i64 sc],.int .i64 s] w fun e w'=>∃v,e=.returned v∧IW w w.heap.size v (List.replicate (s-sc) 0++D) w':=by
 rcases hva with⟨rfl,rfl⟩|⟨b,off,cap,rfl,hlt,hc⟩
 ·simp at hn
 obtain⟨i0,hi,hx⟩:=Option.map_eq_some_iff.1 infoInt
 simp only[Prod.mk.injEq]at hx
 obtain⟨hz0,hz1,hz2⟩:=hx
 replace hi:=Hd hi
 replace hz0:=Hd hz0
 replace hz1:=Hd hz1
 replace hz2:=Hd hz2
 have lai:(D.length:Int)≤100000:=by omega
 have hsi:(sc:Int)≤(s:Int):=by omega
 have hs1i:(s:Int)≤100000:=by omega
 go_enter Tryz.func174,Tryz.ntmps174
 go_upto_region 1 with(fail)
 obtain⟨W,hW⟩:∃W,W=w.alloc (.cells #[.bool neg,.slice (some ⟨b,off,none⟩) D.length cap,.int .i64 sc] 167):=⟨_,rfl⟩
 have hbw:Below w.heap.size w W:=by rw[hW];exact(Below.refl _ _).alloc (Nat.le_refl _) _
 have c0:W.cell? ⟨w.heap.size,0,none⟩=some (.bool neg):=by rw[hW,World.cell?_alloc_new];rfl
 have c1:W.cell? ⟨w.heap.size,1,none⟩=some (.slice (some ⟨b,off,none⟩) D.length cap):=by rw[hW,World.cell?_alloc_new];rfl
 have c2:W.cell? ⟨w.heap.size,2,none⟩=some (.int .i64 sc):=by rw[hW,World.cell?_alloc_new];rfl
 have hWs:w.heap.size+1=W.heap.size:=by rw[hW,World.size_alloc]
 rw[←hW]
 clear hW
 have hbl:=Hd hbw
 clear hbw
 go_wp2_with (first|(at_make;refine wpList_make_full _ rfl _ _ 40 rfl w.heap.size 3 i0 (.int .i64 0) 1 Tryz.underlying40 hi.out hz0.out hz1.out .i64 .i64 ((s:Int)-(sc:Int)) ((s:Int)-(sc:Int)) (s-sc) rfl rfl ?m1 ?m2 ?m3 ?m4 ?m5 ?m6)|fail)
 case m1=>omega
 case m2=>omega
 case m3=>rw[hz2.out];omega
 case m4=>simp only[maxLen];omega
 case m5=>omega
 case m6=>
  intro w1 h1 h2
  have hI:=IW.made hbl.out (by omega) h1 h2
  have hcells:∀j,j<D.length→w1.cell? ⟨b,off+j,none⟩=some (.int .i64 (D.getD j 0:Nat)):=fun j hj=>(hI.below.cell (p:=⟨b,off+j,none⟩) hlt).trans (hc j hj)
  have hnews:=IntsAt.news (cap:=cap) hcells
  have hs1:=h2.size
  have d1:=h2.cell c1 (by simp)
  have hown:=hI.own
  rw[List.length_replicate]at hown
  clear hc hcells c0 c1 c2 h1
  go_wp2_with (first|(at_builtin;refine wpList_append_own _ rfl _ _ 40 rfl w.heap.size 3 i0 (.int .i64 0) 1 8 Tryz.underlying40 hi.out hz0.out hz1.out hz2.out rfl (by decide) _ (s-sc) (intsV (List.replicate (s-sc) 0)) rfl hown _ D.length _ (intsV D) rfl ?n1 ?n2 ?n3 ?n4 ?n5 ?n6 ?n7)|fail)
  case n1=>rw[intsV_length,Nat.mul_one]
  case n2=>exact hnews
  case n3=>exact intsV_one D
  case n4=>simp only[maxLen];omega
  case n5=>omega
  case n6=>omega
  case n7=>
   intro v' w2 h3 h4 _
   have hI2:=hI.more (m:=D) (by omega) (by rw[List.length_replicate];exact h3) h4
   clear h3 h4 hI hnews hown d1
   replace hI2:=Hd hI2
   go_wp2
   go_ret
   exact⟨_,rfl,hI2.out⟩
end Go.Proofs.YtidplkfhodpdhaaGreatDoor.dec
