/- Texts RtBoth, RtCell, RtJnd, RtRJ, one behind the other. -/
import Derived.Test.YtidplkfhodpdhaaGreatDoorTabEqA
import Derived.Test.YtidplkfhodpdhaaGreatDoorTabJnA
import Derived.Maps.AppendAt
set_option linter.unusedSimpArgs false
set_option linter.unusedVariables false
set_option maxRecDepth 100000
set_option maxHeartbeats 8000000
namespace Go.Proofs.YtidplkfhodpdhaaGreatDoor.tab
open Go.ChangeShapes Go.WideShapes Go.ChangeAt Go.RowKit kit dec val
open hyp (RowA TextsA CellsStay stay_of_below textsV textsV_length own_row OW)
theorem both_in{A B:List ByteArray}{k:Nat}(h:k<B.length)(hm:B[k]∈A):(B.take (k+1)).foldl addN A=(B.take k).foldl addN A:=by
 rw[List.take_succ_eq_append_getElem h,List.foldl_append]
 show addN _ _=_
 exact if_pos ((mem_foldN _ _).2 (.inl hm))
theorem both_out{A B:List ByteArray}(hB:B.Nodup){k:Nat}(h:k<B.length)(hm:B[k]∉A):(B.take (k+1)).foldl addN A=(B.take k).foldl addN A++[B[k]]:=by
 rw[List.take_succ_eq_append_getElem h,List.foldl_append]
 show addN _ _=_
 exact if_neg (fun hc=>by
  rcases(mem_foldN _ _).1 hc with h1|h1
  ·exact hm h1
  ·exact not_before hB h h1)
theorem rBoth_any(w:World)(va vb:Value)(A B:List ByteArray)(hA:TextsA w w.heap.size va A)(hB:TextsA w w.heap.size vb B)(hBn:B.Nodup)(la:A.length≤100000)(lb:B.length≤100000):
 Calls Tryz.prog 49 #[va,vb] w fun e w'=>∃u,e=.returned u∧OW 9 w w.heap.size u (textsV (B.foldl addN A)) w':=by
 obtain⟨i0,hi,hz0,hz1,hz2⟩:=info_parts infoStr
 obtain⟨aa,ca,rfl,hat⟩:=hA.form
 obtain⟨ab,cb,rfl,hbt⟩:=hB.form
 have cC:=Hd (hyp.copyT_any w _ A hA (by omega))
 replace hi:=Hd hi
 replace hz0:=Hd hz0
 replace hz1:=Hd hz1
 replace hz2:=Hd hz2
 replace hat:=Hd hat
 replace hbt:=Hd hbt
 clear hA hB
 go_enter Tryz.func49,Tryz.ntmps49
 go_wp2_with fail
 refine cC.out.mono ?_
 rintro e w1 ⟨u,rfl,hO⟩
 have hO1:Hid (OW 9 w w.heap.size u (textsV ((B.take 0).foldl addN A)) w1):=Hd (by simpa using hO)
 clear cC hO
 go_wp2
 go_loopw [5,6] (fun v5 i wr=>∃k:Nat,k≤B.length∧i=.int .i64 (k:Int)∧Hid (OW 9 w w.heap.size v5 (textsV ((B.take k).foldl addN A)) wr)) (fun _ i _=>B.length-(intOf i).toNat)
 case atStart=>exact⟨0,Nat.zero_le _,rfl,hO1⟩
 case round=>
  clear hO1
  obtain⟨k,hk,rfl,hO⟩:=hrel
  obtain⟨w2,rfl⟩:∃w2:World,w2=wr:=⟨_,rfl⟩
  by_cases hlt:k<B.length
  ·have hki:(k:Int)<(B.length:Int):=by omega
   have hk1:=Hd (show k+1≤B.length from hlt)
   obtain⟨b,off,rfl,-,hcb⟩:=hbt.out k hlt
   replace hcb:=sB hO.out.below hcb
   have cI:=Hd (rindex_any w2 aa ca A (B[k]'hlt) (by omega) (fun j hj=>by
    obtain⟨b,off,h1,h2,h3⟩:=hat.out j hj
    exact⟨b,off,h1,Nat.lt_of_lt_of_le h2 hO.out.below.size,sB hO.out.below h3⟩))
   have hin:=Hd (both_in (A:=A) hlt)
   have hout:=Hd (both_out (A:=A) hBn hlt)
   have hneg:=idxI_neg A (B[k]'hlt)
   have hsz:((B.take k).foldl addN A).length≤200000:=by have:=foldN_len (B.take k) A;rw[List.length_take]at this;omega
   generalize (B[k]'hlt)=x at *
   by_cases hm:x∈A
   ·have h2:=hin.out hm
    rw[←h2]at hO
    clear h2
    rw[decide_eq_true hm]at hneg
    replace hm:=Hd hm
    obtain⟨id,hid⟩:∃id,idxI A x=id:=⟨_,rfl⟩
    rw[hid]at cI hneg
    replace hid:=Hd hid
    have hneg2:¬id<0:=by simpa using hneg
    clear hneg hin hout hsz
    go_wp2_with fail
    refine cI.out.mono ?_
    rintro e w3 ⟨rfl,rfl⟩
    clear cI
    go_wp2
    go_roundw
    case rel=>exact⟨k+1,hk1.out,by go_num,hO⟩
    case measure=>have:=hk1.out;simp[intOf];omega
   ·have h2:=hout.out hm
    rw[decide_eq_false hm]at hneg
    replace hm:=Hd hm
    replace h2:=Hd h2
    obtain⟨id,hid⟩:∃id,idxI A x=id:=⟨_,rfl⟩
    rw[hid]at cI hneg
    replace hid:=Hd hid
    have hneg2:id<0:=by simpa using hneg
    clear hneg hin hout
    obtain⟨F,hF⟩:∃F,(B.take k).foldl addN A=F:=⟨_,rfl⟩
    rw[hF]at hO h2 hsz
    replace hF:=Hd hF
    have hown:=hO.out.own
    rw[textsV_length]at hown
    obtain⟨a5,c5,h5⟩:=own_form4x hown
    subst h5
    have hws:=hO.out.below.size
    go_wp2_with fail
    refine cI.out.mono ?_
    rintro e w3 ⟨rfl,rfl⟩
    clear cI
    replace hown:=Hd hown
    go_wp2_with (at_builtin;refine wpList_append_own _ rfl _ _ 22 rfl w.heap.size 9 i0 (.string ByteArray.empty) 1 16 Tryz.underlying22 hi.out hz0.out hz1.out hz2.out rfl (by decide) _ F.length (textsV F) rfl (hown.out.alloc _) _ 1 _ [.string x] rfl rfl (news_b _ _ _) ?ra ?rb ?rc ?rd ?re)
    case ra=>simp[Value.oneCell']
    case rb=>simp only[maxLen];omega
    case rc=>omega
    case rd=>rw[World.size_alloc];omega
    case re=>
     intro v' w' h1 h3 _
     have hO2:=hO.out.step hws (.cells #[.string x] 9) (.string x) (by rw[textsV_length];exact h1) h3
     have e9:textsV F++[.string x]=textsV ((B.take (k+1)).foldl addN A):=by rw[h2.out];simp[textsV]
     rw[e9]at hO2
     replace hO2:=Hd hO2
     clear h1 h3 e9 hown hO
     go_wp2
     go_roundw
     case rel=>exact⟨k+1,hk1.out,by go_num,hO2⟩
     case measure=>have:=hk1.out;simp[intOf];omega
  ·have hki:¬(k:Int)<(B.length:Int):=by omega
   obtain rfl:k=B.length:=by omega
   rw[List.take_length]at hO
   go_wp2
   go_ret
   exact⟨_,rfl,hO.out⟩
def fitK(A B:List ByteArray)(r s:List V)(i:Nat):Prop:=∀x∈A.take i,x∈B→okC (cellF A r x) (cellF B s x)=true
def shrK(A B:List ByteArray)(r s:List V)(i:Nat):Bool:=(A.take i).any fun x=>decide (x∈B)&&(!isN (cellF A r x)&&!isN (cellF B s x))
theorem fitK_step{A B:List ByteArray}{r s:List V}{i:Nat}(h:i<A.length)(h1:fitK A B r s i)(h2:A[i]∈B→okC (cellF A r A[i]) (cellF B s A[i])=true):fitK A B r s (i+1):=by
 intro x hx hb
 rw[List.take_succ_eq_append_getElem h,List.mem_append,List.mem_singleton]at hx
 rcases hx with hx|rfl
 ·exact h1 x hx hb
 ·exact h2 hb
theorem fitK_end{A B:List ByteArray}{r s:List V}(h:fitK A B r s A.length):compat A B r s=true:=by
 rw[compat_iff]
 unfold fitK at h
 rw[List.take_length]at h
 exact h
theorem fitK_no{A B:List ByteArray}{r s:List V}{i:Nat}(h:i<A.length)(hb:A[i]∈B)(hc:okC (cellF A r A[i]) (cellF B s A[i])=false):compat A B r s=false:=by
 apply Bool.eq_false_iff.2
 intro h2
 rw[(compat_iff A B r s).1 h2 A[i] (List.getElem_mem h) hb]at hc
 cases hc
theorem shrK_step{A B:List ByteArray}{r s:List V}{i:Nat}(h:i<A.length):shrK A B r s (i+1)=(shrK A B r s i||(decide (A[i]∈B)&&(!isN (cellF A r A[i])&&!isN (cellF B s A[i])))):=by
 unfold shrK
 rw[List.take_succ_eq_append_getElem h,List.any_append]
 simp
theorem shrK_end(A B:List ByteArray)(r s:List V):shrK A B r s A.length=shared A B r s:=by
 unfold shrK shared
 rw[List.take_length,Bool.eq_iff_iff,List.any_eq_true,List.any_eq_true]
 constructor
 ·rintro⟨x,hx,h⟩
  rw[Bool.and_eq_true,decide_eq_true_eq]at h
  exact⟨x,h.1,by rw[Bool.and_eq_true,decide_eq_true_eq];exact⟨hx,h.2⟩⟩
 ·rintro⟨x,hx,h⟩
  rw[Bool.and_eq_true,decide_eq_true_eq]at h
  exact⟨x,h.1,by rw[Bool.and_eq_true,decide_eq_true_eq];exact⟨hx,h.2⟩⟩
theorem cell_get{A:List ByteArray}{r:List V}(hl:r.length=A.length){x:ByteArray}{k:Nat}(hk:A.idxOf x=k)(hlt:k<r.length):cellF A r x=r[k]:=by
 unfold cellF
 rw[hk,List.getD_eq_getElem?_getD,List.getElem?_eq_getElem hlt]
 rfl
theorem isN_mk(k:Int)(b:Bool)(n:Int)(t x:ByteArray)(l:List V):isN (.mk k b n t x l)=(k==0):=by
 unfold isN kindV
 rw[Bool.eq_iff_iff,decide_eq_true_eq,beq_iff_eq]
theorem rFits_any (N : Nat) (hN : N ≤ 1048576) (w : World) (va vb ur us : Value) (A B : List ByteArray) (r s : List V) (hA : TextsA w w.heap.size va A) (hB : TextsA w w.heap.size vb B) (hAn : A.Nodup) (hr : LA w N ur r) (hs : LA w N us s) (hrl : r.length = A.length) (hsl : s.length = B.length) (la : A.length ≤ 100000) (lb : B.length ≤ 100000) :
 Calls Tryz.prog 13 #[va,ur,vb,us] w fun e w'=>e=.returned (.tuple #[.bool (compat A B r s),.bool (compat A B r s&&shared A B r s)])∧Below w.heap.size w w':=by
 obtain⟨aa,ca,rfl,hat⟩:=hA.form
 obtain⟨ab,cb,rfl,hbt⟩:=hB.form
 obtain⟨ar,cr,rfl⟩:=hr.form6
 obtain⟨as',cs,rfl⟩:=hs.form6
 replace hat:=Hd hat
 replace hbt:=Hd hbt
 replace hr:=Hd hr
 replace hs:=Hd hs
 replace hrl:=Hd hrl
 replace hsl:=Hd hsl
 have hf0:=Hd (show fitK A B r s 0 from fun x hx=>by simp at hx)
 clear hA hB
 go_enter Tryz.func13,Tryz.ntmps13
 go_wp2
 go_loopw [10,11] (fun v10 i wr=>∃k:Nat,k≤A.length∧i=.int .i64 (k:Int)∧v10=.bool (shrK A B r s k)∧Hid (fitK A B r s k)∧Hid (Below w.heap.size w wr)) (fun _ i _=>A.length-(intOf i).toNat)
 case atStart=>exact⟨0,Nat.zero_le _,rfl,rfl,hf0,Hd (Below.refl _ _)⟩
 case round =>
  clear hf0
  obtain⟨i,hi,rfl,rfl,hf,hb⟩:=hrel
  obtain⟨w2,rfl⟩:∃w2:World,w2=wr:=⟨_,rfl⟩
  obtain⟨sh,hsh⟩:∃sh,shrK A B r s i=sh:=⟨_,rfl⟩
  by_cases hlt:i<A.length
  ·have hki : (i : Int) < (A.length : Int) := by omega
   have hk1:=Hd (show i+1≤A.length from hlt)
   have hir:i<r.length:=by rw[hrl.out];exact hlt
   have hiri:(i:Int)<(r.length:Int):=by omega
   obtain⟨b,off,rfl,-,hca⟩:=hat.out i hlt
   replace hca:=sB hb.out hca
   obtain⟨b1,o1,k1,bo1,n1,t1,x1,l1,aoE,capE,rfl,he1,hr1,-,hl1⟩:=la_at hr.out i hir
   replace hr1:=hr1.below hb.out
   replace hl1:=hl1.stay hb.out
   have hcx:cellF A r (A[i]'hlt)=.mk k1 bo1 n1 t1 x1 l1:=by
    rw[cell_get hrl.out (List.Nodup.idxOf_getElem hAn i hlt) hir]
    exact he1
   have cI:=Hd (rindex_any w2 ab cb B (A[i]'hlt) (by omega) (fun j hj=>by
    obtain⟨b,off,h1,h2,h3⟩:=hbt.out j hj
    exact⟨b,off,h1,Nat.lt_of_lt_of_le h2 hb.out.size,sB hb.out h3⟩))
   have hfs:=Hd (fun h2=>fitK_step (s:=s) (B:=B) (r:=r) hlt hf.out h2)
   have hfn:=Hd (fun h1 h2=>fitK_no (s:=s) (B:=B) (r:=r) hlt h1 h2)
   have hss:=shrK_step (s:=s) (B:=B) (r:=r) hlt
   rw[hcx]at hfs hss hfn
   rw[hsh]at hss ⊢
   have hss2:=Hd hss
   replace hsh:=Hd hsh
   clear hss he1 hcx
   generalize (A[i]'hlt)=x at *
   by_cases hm:x∈B
   ·have hxi:idxI B x=((B.idxOf x:Nat):Int):=by unfold idxI;rw[if_pos hm]
    have hxl:=List.idxOf_lt_length_of_mem hm
    obtain⟨q,hq⟩:∃q,B.idxOf x=q:=⟨_,rfl⟩
    rw[hq]at hxi hxl
    have hqs:q<s.length:=by rw[hsl.out];exact hxl
    have hqsi:(q:Int)<(s.length:Int):=by omega
    obtain⟨b2,o2,k2,bo2,n2,t2,x2,l2,aoF,capF,rfl,he2,hr2,-,hl2⟩:=la_at hs.out q hqs
    replace hr2:=hr2.below hb.out
    replace hl2:=hl2.stay hb.out
    have hcy:cellF B s x=.mk k2 bo2 n2 t2 x2 l2:=by
     rw[cell_get hsl.out hq hqs]
     exact he2
    rw[hcy,decide_eq_true hm]at hss2
    rw[hcy]at hfs hfn
    rw[hxi]at cI
    have hq0:¬(q:Int)<0:=by omega
    replace hq:=Hd hq
    replace hxi:=Hd hxi
    clear he2 hcy
    by_cases hz1:k1=0
    ·have hz1b:(k1==0)=true:=by rw[hz1];rfl
     have hfk:=Hd (hfs.out (fun _=>by unfold okC;rw[isN_mk,hz1b];rfl))
     have hsk:shrK A B r s (i+1)=sh:=by rw[hss2.out,isN_mk,hz1b];simp
     replace hsk:=Hd hsk
     obtain⟨y0,y1,y2,y3,y4,y5⟩:=hr1.six
     subst hz1
     clear hfs hfn hss2 hr1 hr2 hl1 hl2 hz1b
     go_wp2_with fail
     refine cI.out.mono ?_
     rintro e w3 ⟨rfl,rfl⟩
     clear cI
     go_wp2
     go_roundw
     case rel=>exact⟨i+1,hk1.out,by go_num,by rw[hsk.out],hfk,hb⟩
     case measure=>have:=hk1.out;simp[intOf];omega
    ·have hz1b:(k1==0)=false:=beq_eq_false_iff_ne.2 hz1
     by_cases hz2:k2=0
     ·have hz2b:(k2==0)=true:=by rw[hz2];rfl
      have hfk:=Hd (hfs.out (fun _=>by unfold okC;rw[isN_mk,isN_mk,hz2b];simp))
      have hsk:shrK A B r s (i+1)=sh:=by rw[hss2.out,isN_mk,isN_mk,hz2b];simp
      replace hsk:=Hd hsk
      obtain⟨y0,y1,y2,y3,y4,y5⟩:=hr1.six
      obtain⟨z0,z1,z2,z3,z4,z5⟩:=hr2.six
      subst hz2
      clear hfs hfn hss2 hr1 hr2 hl1 hl2 hz2b
      go_wp2_with fail
      refine cI.out.mono ?_
      rintro e w3 ⟨rfl,rfl⟩
      clear cI
      go_wp2
      go_roundw
      case rel=>exact⟨i+1,hk1.out,by go_num,by rw[hsk.out],hfk,hb⟩
      case measure=>have:=hk1.out;simp[intOf];omega
     ·have hz2b:(k2==0)=false:=beq_eq_false_iff_ne.2 hz2
      have hok:okC (.mk k1 bo1 n1 t1 x1 l1) (.mk k2 bo2 n2 t2 x2 l2)=sameP (.mk k1 bo1 n1 t1 x1 l1) (.mk k2 bo2 n2 t2 x2 l2):=by unfold okC;rw[isN_mk,isN_mk,hz1b,hz2b];simp
      rw[hok]at hfs hfn
      have hsk:shrK A B r s (i+1)=true:=by rw[hss2.out,isN_mk,isN_mk,hz1b,hz2b];simp
      replace hsk:=Hd hsk
      have hdr:Below w2.heap.size w2 w2.drew:=below_drewN (Below.refl _ _) 1
      have cS:=rsame_call N (by omega) w2.drew k1 bo1 n1 t1 x1 _ l1 k2 bo2 n2 t2 x2 _ l2 (hl1.stay hdr) (hl2.stay hdr)
      unfold agg6 at cS
      have hB3:=Hd (hb.out.trans (hdr.mono hb.out.size))
      obtain⟨y0,y1,y2,y3,y4,y5⟩:=hr1.six
      obtain⟨z0,z1,z2,z3,z4,z5⟩:=hr2.six
      generalize sameP (.mk k1 bo1 n1 t1 x1 l1) (.mk k2 bo2 n2 t2 x2 l2)=sm at *
      replace cS:=Hd cS
      have hm2:=Hd hm
      clear hss2 hr1 hr2 hl1 hl2 hok hm
      go_wp2_with fail
      refine cI.out.mono ?_
      rintro e w3 ⟨rfl,rfl⟩
      clear cI
      go_upto_region 7 with fail
      refine wp_region_held_drew (S:=fun V=>Below w3.heap.size w3 V) (by kernel_rfl) hdr (fun hS=>?_)
      generalize w3.drew=V0 at *
      refine tkS [0,1,2,3,4,5,6,7] ?_
      iterate 8
       refine tkC ?_ rfl (fun w' hS=>?_) hS ?_
       rotate_left
       ·
        have p0:=sB hS y0;have p1:=sB hS y1;have p2:=sB hS y2;have p3:=sB hS y3;have p4:=sB hS y4;have p5:=sB hS y5;have q0:=sB hS z0;have q1:=sB hS z1;have q2:=sB hS z2;have q3:=sB hS z3;have q4:=sB hS z4;have q5:=sB hS z5
        go_simp
        try with_reducible rfl
      refine rdH 8 rfl (fun K hK=>?_)
      clear hS
      go_simp
      refine(cS.out).mono ?_
      rintro e w5 ⟨rfl,hb5⟩
      go_wp2_with fail
      refine hKo hK (hdr.trans (hb5.mono hdr.size)) (fun hS=>?_)
      clear hK K
      have hB5:=Hd (hB3.out.trans (hb5.mono hB3.out.size))
      clear hb5 cS hB3 hdr hb
      refine tkH 9 ?_ rfl (fun w' hS=>?_) hS ?_
      rotate_left
      ·
       skip
       go_simp
       try with_reducible rfl
      refine wpAnyH_done (by kernel_rfl) ?_ _
      clear hS y0 y1 y2 y3 y4 y5 z0 z1 z2 z3 z4 z5 hca
      cases sm with
      |true=>
       have hfk:=Hd (hfs.out (fun _=>rfl))
       clear hfs hfn
       go_wp2
       go_roundw
       case rel=>exact⟨i+1,hk1.out,by go_num,by rw[hsk.out],hfk,hB5⟩
       case measure=>have:=hk1.out;simp[intOf];omega
      |false=>
       have hcn:=Hd (hfn.out hm2.out rfl)
       clear hfs hfn
       go_wp2
       go_ret2
       exact⟨by rw[hcn.out];rfl,hB5.out⟩
   ·have hxi:idxI B x=-1:=by unfold idxI;rw[if_neg hm]
    rw[hxi]at cI
    have hfk:=Hd (hfs.out (fun h=>absurd h hm))
    have hsk:shrK A B r s (i+1)=sh:=by rw[hss2.out,decide_eq_false hm];simp
    replace hsk:=Hd hsk
    replace hxi:=Hd hxi
    clear hfs hfn hss2 hr1 hl1 hm
    go_wp2_with fail
    refine cI.out.mono ?_
    rintro e w3 ⟨rfl,rfl⟩
    clear cI
    go_wp2
    go_roundw
    case rel=>exact⟨i+1,hk1.out,by go_num,by rw[hsk.out],hfk,hb⟩
    case measure=>have:=hk1.out;simp[intOf];omega
  ·have hki:¬(i:Int)<(A.length:Int):=by omega
   obtain rfl:i=A.length:=by omega
   have hc:=Hd (fitK_end hf.out)
   have hs2:=Hd (shrK_end A B r s)
   replace hsh:=Hd hsh
   go_wp2
   go_ret2
   exact⟨by rw[hc.out,hs2.out];rfl,hb.out⟩
def RcP(w0 w:World)(N:Nat)(A:List ByteArray)(r:List V)(x:ByteArray)(e:Ending)(w':World):Prop:=
 ∃(k:Int) (b:Bool) (n:Int) (t y:ByteArray) (l:List V) (a:Option Addr) (c:Nat),e=.returned (.agg #[.int .i64 k,.bool b,.int .i64 n,.string t,.string y,.slice a l.length c])∧cellF A r x=.mk k b n t y l∧okV N (.mk k b n t y l)∧LA w0 N (.slice a l.length c) l∧Below w.heap.size w w'
theorem la_none(w:World)(N:Nat):LA w N (.slice none 0 0) []:=.mk none 0 [] (Nat.zero_le _) (fun j hj=>by simp at hj)
theorem okV_null(N:Nat):okV N nullV:=by
 unfold okV nullV In64
 exact⟨by omega,by omega,Nat.zero_le _,Nat.zero_le _⟩
theorem rcell_any(N:Nat)(hN:N≤1048576)(w0 w:World)(h0:Below w0.heap.size w0 w)(va ur:Value)(A:List ByteArray)(r:List V)(x:ByteArray)(hA:TextsA w0 w0.heap.size va A)(hr:LA w0 N ur r)(hrl:r.length=A.length)(la:A.length≤100000):
 Calls Tryz.prog 78 #[va,ur,.string x] w (RcP w0 w N A r x):=by
 obtain⟨aa,ca,rfl,hat⟩:=hA.form
 obtain⟨ar,cr,rfl⟩:=hr.form6
 have hal:Below w.heap.size w (w.alloc (.cells #[.int .i64 0,.bool false,.int .i64 0,.string ⟨#[]⟩,.string ⟨#[]⟩,.slice none 0 0] 52)):=(Below.refl _ _).alloc (Nat.le_refl _) _
 have hq:=Blk.new w #[.int .i64 0,.bool false,.int .i64 0,.string ⟨#[]⟩,.string ⟨#[]⟩,.slice none 0 0] 52
 have cI:=rindex_any (w.alloc (.cells #[.int .i64 0,.bool false,.int .i64 0,.string ⟨#[]⟩,.string ⟨#[]⟩,.slice none 0 0] 52)) aa ca A x (by omega) (fun j hj=>by
  obtain⟨b,off,h1,h2,h3⟩:=hat j hj
  exact⟨b,off,h1,Nat.lt_of_lt_of_le h2 (Nat.le_trans h0.size hal.size),sB hal (sB h0 h3)⟩)
 have hneg:=idxI_neg A x
 clear hA hat
 by_cases hm:x∈A
 ·have hxi:idxI A x=((A.idxOf x:Nat):Int):=by unfold idxI;rw[if_pos hm]
  have hxl:=List.idxOf_lt_length_of_mem hm
  obtain⟨q,hq2⟩:∃q,A.idxOf x=q:=⟨_,rfl⟩
  rw[hq2]at hxi hxl
  have hqr:q<r.length:=by rw[hrl];exact hxl
  have hqri:(q:Int)<(r.length:Int):=by omega
  obtain⟨b1,o1,k1,bo1,n1,t1,x1,l1,aoE,capE,rfl,he1,hr1,hok,hl1⟩:=la_at hr q hqr
  have hcx:cellF A r x=.mk k1 bo1 n1 t1 x1 l1:=by
   rw[cell_get hrl hq2 hqr]
   exact he1
  rw[hxi]at cI
  have hq0:¬(q:Int)<0:=by omega
  replace hr1:=(hr1.below h0).below hal
  have hfin:=Hd (val.Blk.set6 hq (.int .i64 k1) (.bool bo1) (.int .i64 n1) (.string t1) (.string x1) (.slice aoE l1.length capE))
  have hbf:=Hd (val.Below.set6 hal (Nat.le_refl w.heap.size) (.int .i64 k1) (.bool bo1) (.int .i64 n1) (.string t1) (.string x1) (.slice aoE l1.length capE))
  obtain⟨y0,y1,y2,y3,y4,y5⟩:=hr1.six
  have z0:=hq.cell 0 rfl
  have z1:=hq.cell 1 rfl
  have z2:=hq.cell 2 rfl
  have z3:=hq.cell 3 rfl
  have z4:=hq.cell 4 rfl
  have z5:=hq.cell 5 rfl
  have zf:=hq.free
  replace hxi:=Hd hxi
  replace hq2:=Hd hq2
  replace hrl:=Hd hrl
  replace hcx:=Hd hcx
  replace hok:=Hd hok
  replace hl1:=Hd hl1
  replace he1:=Hd he1
  replace hneg:=Hd hneg
  clear hr1 hr hal hq
  replace cI:=Hd cI
  go_enter Tryz.func78,Tryz.ntmps78
  go_wp2_with fail
  generalize w.alloc (.cells #[.int .i64 0,.bool false,.int .i64 0,.string ⟨#[]⟩,.string ⟨#[]⟩,.slice none 0 0] 52)=w1 at *
  refine cI.out.mono ?_
  rintro e w2 ⟨rfl,rfl⟩
  clear cI
  go_wp2
  refine bodyPost_ret (v:=.agg #[.int .i64 k1,.bool bo1,.int .i64 n1,.string t1,.string x1,.slice aoE l1.length capE]) (results_cell_row rfl _ _ w.heap.size 52 _ (0,0) _ rfl hfin.out.eq Tryz.underlying52 rfl infoV6) rfl ?_
  exact⟨_,_,_,_,_,_,_,_,rfl,hcx.out,hok.out,hl1.out,hbf.out⟩
 ·have hxi:idxI A x=-1:=by unfold idxI;rw[if_neg hm]
  rw[hxi]at cI
  have hcx:cellF A r x=nullV:=cell_out hrl hm
  have hfin:=Hd (val.Blk.set6 hq (.int .i64 0) (.bool false) (.int .i64 0) (.string ⟨#[]⟩) (.string ⟨#[]⟩) (.slice none 0 0))
  have hbf:=Hd (val.Below.set6 hal (Nat.le_refl w.heap.size) (.int .i64 0) (.bool false) (.int .i64 0) (.string ⟨#[]⟩) (.string ⟨#[]⟩) (.slice none 0 0))
  have z0:=hq.cell 0 rfl
  have z1:=hq.cell 1 rfl
  have z2:=hq.cell 2 rfl
  have z3:=hq.cell 3 rfl
  have z4:=hq.cell 4 rfl
  have z5:=hq.cell 5 rfl
  have zf:=hq.free
  replace hxi:=Hd hxi
  replace hrl:=Hd hrl
  replace hcx:=Hd hcx
  replace hneg:=Hd hneg
  clear hr hal hq
  replace cI:=Hd cI
  go_enter Tryz.func78,Tryz.ntmps78
  go_wp2_with fail
  generalize w.alloc (.cells #[.int .i64 0,.bool false,.int .i64 0,.string ⟨#[]⟩,.string ⟨#[]⟩,.slice none 0 0] 52)=w1 at *
  refine cI.out.mono ?_
  rintro e w2 ⟨rfl,rfl⟩
  clear cI
  go_wp2
  refine bodyPost_ret (v:=.agg #[.int .i64 0,.bool false,.int .i64 0,.string ⟨#[]⟩,.string ⟨#[]⟩,.slice none 0 0]) (results_cell_row rfl _ _ w.heap.size 52 _ (0,0) _ rfl hfin.out.eq Tryz.underlying52 rfl infoV6) rfl ?_
  exact⟨0,false,0,⟨#[]⟩,⟨#[]⟩,[],none,0,rfl,by rw[hcx.out];rfl,okV_null N,la_none _ _,hbf.out⟩
structure Rob(w0 w w':World)(N:Nat)(v:Value)(l:List V):Prop where
 below:Below w.heap.size w w'
 ex:∃ps:List (V×Value),l=ps.map (·.1)∧ps.length≤N∧w'.ownsRow w.heap.size 52 6 v ps.length (rowL ps)∧∀p∈ps,okV N p.1∧LA w0 N p.2 (kids p.1)
theorem Rob.form{w0 w w':World}{N:Nat}{v:Value}{l:List V}(h:Rob w0 w w' N v l):∃a c,v=.slice a l.length c:=by
 obtain⟨ps,e,_,own,_⟩:=h.ex
 subst e
 obtain⟨a,c,e⟩:=own_form4x own
 exact⟨a,c,by rw[e,List.length_map]⟩
theorem Rob.la{w0 w w' W:World}{N:Nat}{v:Value}{l:List V}(h:Rob w0 w w' N v l)(hb:Below w0.heap.size w0 W)(hg:∀b,w.heap.size≤b→b<w'.heap.size→W.heap[b]? = w'.heap[b]?):LA W N v l:=by
 obtain⟨ps,e,hN,own,hp⟩:=h.ex
 subst e
 have own2:=val.own_stay own fun g hgk=>hg g (own.lt g hgk).1 (own.lt g hgk).2
 rcases own2.2 with⟨rfl,hn⟩|⟨g,cap,cur,rfl,_⟩
 ·obtain rfl:ps=[]:=List.eq_nil_of_length_eq_zero hn
  exact la_none _ _
 ·have own0:W.ownsRow 0 52 6 (.slice (some ⟨g,0,none⟩) ps.length cap) ps.length (rowL ps):=own_low4 own2 (Nat.zero_le _)
  have:=LA.mk (w:=W) (N:=N) (some ⟨g,0,none⟩) cap (ps.map (·.1)) (by simpa using hN) (fun j hj=>by
   have hj':j<ps.length:=by simpa using hj
   rw[List.getElem_map]
   obtain⟨hok,hla⟩:=hp ps[j] (List.getElem_mem _)
   rcases he:ps[j].1 with⟨k,bo,m,t,x,l⟩
   rw[he]at hok hla
   exact .mk g 0 (6 * j) k bo m t x l ps[j].2 (by rw[Nat.zero_add];exact own_six own0 j hj' he) hok.1 hok.2.1 hok.2.2.1 hok.2.2.2 (hla.stay hb))
  simpa using this
theorem six_one{v:V}{s:Value}(hs:s.oneCell'=true):∀u∈six v s,u.oneCell'=true:=by
 cases v with
 |mk k b n t x l=>
  intro u hu
  unfold six at hu
  simp only[List.mem_cons,List.not_mem_nil,or_false]at hu
  rcases hu with rfl|rfl|rfl|rfl|rfl|rfl
  ·rfl
  ·rfl
  ·rfl
  ·rfl
  ·rfl
  ·exact hs
theorem cell_lowT{w:World}{b i:Nat}{v:Value}(h:w.cell? ⟨b,i,none⟩=some v):b<w.heap.size:=by
 obtain⟨o,ho,-⟩:=cells_of_cell h
 exact(Array.getElem?_eq_some_iff.1 ho).1
theorem below_rowT{B:Nat}{a w:World}{g:Nat}(h:Below B a w)(hg:B≤g)(cs:Array Value):Below B a (w.setRow g cs):=
 ⟨h.os,h.tape,h.output,by simpa using h.size,fun k hk=>(_root_.Go.setRow_other w g k cs (by omega)).trans (h.block k hk)⟩
theorem rJoined_any (N : Nat) (hN : N ≤ 1048576) (w0 w : World) (h0 : Below w0.heap.size w0 w) (vx va ur vb us : Value) (X A B : List ByteArray) (r s : List V) (hX : TextsA w w.heap.size vx X) (hA : TextsA w0 w0.heap.size va A) (hr : LA w0 N ur r) (hB : TextsA w0 w0.heap.size vb B) (hs : LA w0 N us s)
 (hrl:r.length=A.length)(hsl:s.length=B.length)(la:A.length≤100000)(lb:B.length≤100000)(lx:X.length≤N):
 Calls Tryz.prog 50 #[vx,va,ur,vb,us] w fun e w'=>∃v,e=.returned v∧Rob w0 w w' N v (X.map fun x=>orN (cellF A r x) (cellF B s x)):=by
 obtain⟨i0,hi,hp⟩:=Option.map_eq_some_iff.1 Tryz.infoV
 have hz2:i0.size=6:=congrArg (fun p=>p.2.1) hp
 have hz3:i0.bytes=80:=congrArg (fun p=>p.2.2) hp
 have hz1:i0.zero.map (·.cells.size)=some 6:=congrArg (fun p=>p.1) hp
 obtain⟨z,hz,hzs⟩:=Option.map_eq_some_iff.1 hz1
 obtain⟨ax,cx,rfl,hxt⟩:=hX.form
 have cA:=Hd (fun V (h:Below w.heap.size w V) x=>rcell_any N hN w0 V (h0.trans (h.mono h0.size)) va ur A r x hA hr hrl la)
 have cB:=Hd (fun V (h:Below w.heap.size w V) x=>rcell_any N hN w0 V (h0.trans (h.mono h0.size)) vb us B s x hB hs hsl lb)
 have hR0:Hid (Rob w0 w w N (.slice none 0 0) ((X.take 0).map fun x=>orN (cellF A r x) (cellF B s x))):=Hd ⟨Below.refl _ _,[],rfl,Nat.zero_le _,World.ownsRow_nil _ _ _ _,by simp⟩
 replace hi:=Hd hi
 replace hz:=Hd hz
 replace hz2:=Hd hz2
 replace hz3:=Hd hz3
 replace hzs:=Hd hzs
 replace hxt:=Hd hxt
 clear hz1 hp hX hA hB hr hs
 go_enter Tryz.func50,Tryz.ntmps50
 go_wp2
 go_loopw [11,12] (fun v11 i wr=>∃k:Nat,k≤X.length∧i=.int .i64 (k:Int)∧Hid (Rob w0 w wr N v11 ((X.take k).map fun x=>orN (cellF A r x) (cellF B s x)))) (fun _ i _=>X.length-(intOf i).toNat)
 case atStart=>exact⟨0,Nat.zero_le _,rfl,hR0⟩
 case round =>
  clear hR0
  obtain⟨k,hk,rfl,hR⟩:=hrel
  obtain⟨w1,rfl⟩:∃w1:World,w1=wr:=⟨_,rfl⟩
  by_cases hlt:k<X.length
  ·have hki : (k : Int) < (X.length : Int) := by omega
   have hk1:=Hd (show k+1≤X.length from hlt)
   obtain⟨b,off,rfl,-,hcx⟩:=hxt.out k hlt
   replace hcx:=sB hR.out.below hcx
   have hnx:Hid (∀v,orN (cellF A r (X[k]'hlt)) (cellF B s (X[k]'hlt))=v→((X.take (k+1)).map fun x=>orN (cellF A r x) (cellF B s x))=((X.take k).map fun x=>orN (cellF A r x) (cellF B s x))++[v]):=Hd fun v hv=>by
    rw[List.take_succ_eq_append_getElem hlt,List.map_append,List.map_singleton,hv]
   have hLl:((X.take k).map fun x=>orN (cellF A r x) (cellF B s x)).length=k:=by rw[List.length_map,List.length_take];omega
   have c1:=Hd (cA.out w1 hR.out.below (X[k]'hlt))
   have c2:=Hd (fun V (h:Below w.heap.size w V)=>cB.out V h (X[k]'hlt))
   generalize (X[k]'hlt)=x at *
   generalize ((X.take k).map fun x=>orN (cellF A r x) (cellF B s x))=L at *
   generalize hL2:((X.take (k+1)).map fun x=>orN (cellF A r x) (cellF B s x))=L2 at *
   replace hL2:=Hd hL2
   obtain⟨ps,hL,hpN,hown,hps⟩:=hR.out.ex
   have hpl:ps.length=k:=by rw[←hLl,hL,List.length_map]
   rw[hpl]at hown
   obtain⟨a11,c11,h11⟩:=own_form4x hown
   subst h11
   replace hown:=Hd hown
   replace hps:=Hd hps
   replace hL:=Hd hL
   replace hpl:=Hd hpl
   replace hLl:=Hd hLl
   have hws:=hR.out.below.size
   go_wp2_with fail
   refine c1.out.mono ?_
   rintro e w2 ⟨k1,b1,n1,t1,y1,l1,a1,e1,rfl,hc1,hok1,hla1,hb2⟩
   clear c1
   have hq:=Blk.new w2 #[.int .i64 k1,.bool b1,.int .i64 n1,.string t1,.string y1,.slice a1 l1.length e1] 52
   have hal:Below w2.heap.size w2 (w2.alloc (.cells #[.int .i64 k1,.bool b1,.int .i64 n1,.string t1,.string y1,.slice a1 l1.length e1] 52)):=(Below.refl _ _).alloc (Nat.le_refl _) _
   have hb13:=hb2.trans (hal.mono hb2.size)
   have hcx3:=sB hb13 hcx
   have hB3:=hR.out.below.trans (hb13.mono hws)
   have hown3:=val.own_stay hown.out fun g hg=>hb13.block g (hown.out.lt g hg).2
   have hs3:=World.size_alloc w2 (.cells #[.int .i64 k1,.bool b1,.int .i64 n1,.string t1,.string y1,.slice a1 l1.length e1] 52)
   have hs13:=hb2.size
   go_upto_region 6 with fail
   obtain⟨p,hpp⟩:∃p,w2.heap.size=p:=⟨_,rfl⟩
   rw[hpp]at hq hs3 hs13
   try rw[hpp]
   generalize w2.alloc (.cells #[.int .i64 k1,.bool b1,.int .i64 n1,.string t1,.string y1,.slice a1 l1.length e1] 52)=w3 at *
   replace hpp:=Hd hpp
   have hgp:=Hd (fun g hg=>Nat.lt_of_lt_of_le (hown.out.lt g hg).2 hs13)
   have z0:=hq.cell 0 rfl
   have z1:=hq.cell 1 rfl
   have z2:=hq.cell 2 rfl
   have z3:=hq.cell 3 rfl
   have z4:=hq.cell 4 rfl
   have z5:=hq.cell 5 rfl
   clear hcx hal hb2 hb13 hown
   by_cases hk0:k1=0
   ·have hv:=Hd (fun v (h:cellF B s x=v)=>hnx.out v (by unfold orN;rw[hc1,isN_mk,hk0];exact(if_pos rfl).trans h))
    have c2':=Hd (c2.out w3 hB3)
    have hB3h:=Hd hB3
    have hown3h:=Hd hown3
    have hqh:=Hd hq
    have hs3h:=Hd hs3
    subst hk0
    clear c2 hnx hc1 hok1 hla1 hB3 hown3 hq hs3
    go_wp2_with fail
    refine c2'.out.mono ?_
    rintro e w4 ⟨k2,b2,n2,t2,y2,l2,a2,e2,rfl,hc2,hok2,hla2,hb4⟩
    clear c2' z0 z1 z2 z3 z4 z5
    have hq4:Blk w4 p #[.int .i64 0,.bool b1,.int .i64 n1,.string t1,.string y1,.slice a1 l1.length e1] 52:=(hb4.block _ hqh.out.lt).trans hqh.out
    obtain⟨cs2,hcs2⟩:∃cs2:Array Value,#[.int .i64 k2,.bool b2,.int .i64 n2,.string t2,.string y2,.slice a2 l2.length e2]=cs2:=⟨_,rfl⟩
    have hq5:=hq4.setRow (cs':=cs2)
    have hB4:=hB3h.out.trans (hb4.mono hB3h.out.size)
    have hB5:Below w.heap.size w (w4.setRow p cs2):=below_rowT hB4 (by omega) _
    have hown4:=val.own_stay hown3h.out fun g hg=>hb4.block g (hown3h.out.lt g hg).2
    have hown5:=val.own_stay (w':=w4.setRow p cs2) hown4 fun g hg=>_root_.Go.setRow_other w4 p g _ (Nat.ne_of_lt (hgp.out g hg))
    have hvF:=hv.out _ hc2
    have hokF:=hok2
    have hlaF:=hla2
    have hq4h:=Hd hq4
    have hsz6:Hid ((#[.int .i64 0,.bool b1,.int .i64 n1,.string t1,.string y1,.slice a1 l1.length e1]:Array Value).size=cs2.size):=Hd (by rw[←hcs2];rfl)
    have hone6:Hid (cs2.all (·.oneCell')=true):=Hd (by rw[←hcs2];simp[Value.oneCell'])
    have hinf6:Hid ((Tryz.prog.info? 52).map (·.size)=some cs2.size):=Hd (by rw[←hcs2];exact infoV6)
    replace hown5:=Hd hown5
    replace hB5:=Hd hB5
    rw[hcs2]
    replace hcs2:=Hd hcs2
    clear hb4 hB3h hown3h hB4 hown4 hqh hs3h hc2 hv hok2 hla2 hq4 hcx3
    go_upto_region 8 with(refine wpList_store_row rfl 52 (.tmp 13) (.tmp 36) rfl p cs2 rfl rfl 52 _ hq4h.out.eq hinf6.out hsz6.out hone6.out ?_)
    generalize w4.setRow p cs2=w5 at *
    replace hown5:=hown5.out
    replace hB5:=hB5.out
    rw[←hcs2.out]at hq5
    clear hq4h
    have z0:=hq5.cell 0 rfl
    have z1:=hq5.cell 1 rfl
    have z2:=hq5.cell 2 rfl
    have z3:=hq5.cell 3 rfl
    have z4:=hq5.cell 4 rfl
    have z5:=hq5.cell 5 rfl
    have hv6:=Hd hvF
    have hown6:=Hd hown5
    have hB6:=Hd hB5
    have hok6:=Hd hokF
    have hla6:=Hd hlaF
    have hnw:=Hd (fun j u (hu:(six (.mk k2 b2 n2 t2 y2 l2) (.slice a2 l2.length e2))[j]? = some u)=>(show(w5.alloc (.cells (six (.mk k2 b2 n2 t2 y2 l2) (.slice a2 l2.length e2)).toArray 52)).cell? ((⟨w5.heap.size,0,none⟩:Addr).add j)=some u by
     rw[Go.WideShapes.add_plain,Nat.zero_add]
     exact(Blk.new w5 (six (.mk k2 b2 n2 t2 y2 l2) (.slice a2 l2.length e2)).toArray 52).cell j (by simpa using hu)))
    have hws5:=hB5.size
    clear hvF hown5 hB5 hokF hlaF hq5
    go_wp2_with (at_builtin;refine wpList_append_own _ rfl _ _ 37 rfl w.heap.size 52 i0 z 6 80 Tryz.underlying37 hi.out hz.out hz2.out hz3.out hzs.out (by decide) _ k (rowL ps) rfl (hown6.out.alloc _) _ 1 _ (six (.mk k2 b2 n2 t2 y2 l2) (.slice a2 l2.length e2)) rfl rfl hnw.out ?ma ?mb ?mc ?md ?me)
    case ma=>exact six_one rfl
    case mb=>simp only[maxLen];omega
    case mc=>omega
    case md=>rw[World.size_alloc];omega
    case me=>
     intro v' w' h1 h2 _
     have hRn:Rob w0 w w' N v' L2:=by
      refine⟨Below.grown (hB6.out.alloc hws5 _) h2 (by rw[World.size_alloc];omega) (fun g hg=>(hown6.out.lt g hg).1),ps++[(.mk k2 b2 n2 t2 y2 l2,.slice a2 l2.length e2)],?_,?_,?_,?_⟩
      ·rw[hv6.out,hL.out,List.map_append];rfl
      ·rw[List.length_append,hpl.out,List.length_singleton];omega
      ·rw[List.length_append,hpl.out,List.length_singleton,rowL_app]
       have e:rowL [((.mk k2 b2 n2 t2 y2 l2:V),(.slice a2 l2.length e2:Value))]=six (.mk k2 b2 n2 t2 y2 l2) (.slice a2 l2.length e2):=by rw[rowL,rowL,List.append_nil]
       rw[e]
       exact h1
      ·intro q hq
       rcases List.mem_append.1 hq with hq|hq
       ·exact hps.out q hq
       ·rw[List.mem_singleton]at hq
        subst hq
        exact⟨hok6.out,hla6.out⟩
     replace hRn:=Hd hRn
     clear h1 h2 hown6 hB6 hnw hR hv6
     go_wp2
     go_roundw
     case rel=>exact⟨k+1,hk1.out,by go_num,by rw[hL2.out];exact hRn⟩
     case measure=>have:=hk1.out;simp[intOf];omega
   ·have hk0b:(k1==0)=false:=beq_eq_false_iff_ne.2 hk0
    have hvF:=hnx.out _ (by unfold orN;rw[hc1,isN_mk,hk0b])
    have hokF:=hok1
    have hlaF:=hla1
    have hown5:=hown3
    have hB5:=hB3
    have hq5:=hq
    clear c2 hnx hc1 hok1 hla1 hown3 hB3 hq hs3
    have z0:=hq5.cell 0 rfl
    have z1:=hq5.cell 1 rfl
    have z2:=hq5.cell 2 rfl
    have z3:=hq5.cell 3 rfl
    have z4:=hq5.cell 4 rfl
    have z5:=hq5.cell 5 rfl
    have hv6:=Hd hvF
    have hown6:=Hd hown5
    have hB6:=Hd hB5
    have hok6:=Hd hokF
    have hla6:=Hd hlaF
    have hnw:=Hd (fun j u (hu:(six (.mk k1 b1 n1 t1 y1 l1) (.slice a1 l1.length e1))[j]? = some u)=>(show(w3.alloc (.cells (six (.mk k1 b1 n1 t1 y1 l1) (.slice a1 l1.length e1)).toArray 52)).cell? ((⟨w3.heap.size,0,none⟩:Addr).add j)=some u by
     rw[Go.WideShapes.add_plain,Nat.zero_add]
     exact(Blk.new w3 (six (.mk k1 b1 n1 t1 y1 l1) (.slice a1 l1.length e1)).toArray 52).cell j (by simpa using hu)))
    have hws5:=hB5.size
    clear hvF hown5 hB5 hokF hlaF hq5
    go_wp2_with (at_builtin;refine wpList_append_own _ rfl _ _ 37 rfl w.heap.size 52 i0 z 6 80 Tryz.underlying37 hi.out hz.out hz2.out hz3.out hzs.out (by decide) _ k (rowL ps) rfl (hown6.out.alloc _) _ 1 _ (six (.mk k1 b1 n1 t1 y1 l1) (.slice a1 l1.length e1)) rfl rfl hnw.out ?na ?nb ?nc ?nd ?ne)
    case na=>exact six_one rfl
    case nb=>simp only[maxLen];omega
    case nc=>omega
    case nd=>rw[World.size_alloc];omega
    case ne=>
     intro v' w' h1 h2 _
     have hRn:Rob w0 w w' N v' L2:=by
      refine⟨Below.grown (hB6.out.alloc hws5 _) h2 (by rw[World.size_alloc];omega) (fun g hg=>(hown6.out.lt g hg).1),ps++[(.mk k1 b1 n1 t1 y1 l1,.slice a1 l1.length e1)],?_,?_,?_,?_⟩
      ·rw[hv6.out,hL.out,List.map_append];rfl
      ·rw[List.length_append,hpl.out,List.length_singleton];omega
      ·rw[List.length_append,hpl.out,List.length_singleton,rowL_app]
       have e:rowL [((.mk k1 b1 n1 t1 y1 l1:V),(.slice a1 l1.length e1:Value))]=six (.mk k1 b1 n1 t1 y1 l1) (.slice a1 l1.length e1):=by rw[rowL,rowL,List.append_nil]
       rw[e]
       exact h1
      ·intro q hq
       rcases List.mem_append.1 hq with hq|hq
       ·exact hps.out q hq
       ·rw[List.mem_singleton]at hq
        subst hq
        exact⟨hok6.out,hla6.out⟩
     replace hRn:=Hd hRn
     clear h1 h2 hown6 hB6 hnw hR hv6
     go_wp2
     go_roundw
     case rel=>exact⟨k+1,hk1.out,by go_num,by rw[hL2.out];exact hRn⟩
     case measure=>have:=hk1.out;simp[intOf];omega
  ·have hki:¬(k:Int)<(X.length:Int):=by omega
   obtain rfl:k=X.length:=by omega
   rw[List.take_length]at hR
   go_wp2
   go_ret
   exact⟨_,rfl,hR.out⟩
def RobR(w wr:World)(N:Nat)(F:Nat→Prop)(v:Value)(l:List V):Prop:=∀W,Below w.heap.size w W→wr.heap.size≤W.heap.size→(∀b,F b→W.heap[b]? = wr.heap[b]?)→LA W N v l
theorem RobR.old{w wr:World}{N:Nat}{F:Nat→Prop}{v:Value}{l:List V}(h:LA w N v l):RobR w wr N F v l:=fun W hb _ _=>h.stay hb
theorem RobR.made{w w1 wr:World}{N:Nat}{v:Value}{l:List V}(h:Rob w w1 wr N v l)(w2:World)(F:Nat→Prop)(hF:∀b,w1.heap.size≤b→b<wr.heap.size→F b)(hk2:∀b,b<wr.heap.size→w2.heap[b]? = wr.heap[b]?):RobR w w2 N F v l:=
 fun W hW hs hk=>h.la hW (fun b h1 h2=>(hk b (hF b h1 h2)).trans (hk2 b h2))
theorem RobR.move{w wr w':World}{N:Nat}{F F':Nat→Prop}{v:Value}{l:List V}(h:RobR w wr N F v l)(hs:wr.heap.size≤w'.heap.size)(hF:∀b,F b→F' b)(hk:∀b,F b→w'.heap[b]? = wr.heap[b]?):RobR w w' N F' v l:=
 fun W hW hsW hkW=>h W hW (Nat.le_trans hs hsW) fun b hb=>(hkW b (hF b hb)).trans (hk b hb)
structure RJ(w wr:World)(X:Nat→Prop)(N:Nat)(v:Value)(rs:List (List V)):Prop where
 below:Below w.heap.size w wr
 ex:∃(vs:List Value) (F:Nat→Prop),vs.length=rs.length∧wr.ownsRow w.heap.size 37 1 v vs.length vs∧(∀b,F b→w.heap.size≤b∧b<wr.heap.size∧v.ownBlock≠some b∧¬X b)∧(∀g,v.ownBlock=some g→¬X g)∧∀j (hj:j<vs.length) (hj':j<rs.length),RobR w wr N F vs[j] rs[j]
theorem RJ.nil{w wr:World}{X:Nat→Prop}{N:Nat}(hb:Below w.heap.size w wr):RJ w wr X N (.slice none 0 0) []:=
 ⟨hb,[],fun _=>False,rfl,World.ownsRow_nil _ _ _ _,fun _ h=>h.elim,fun g h=>(by cases h),fun j hj=>by simp at hj⟩
theorem RJ.form{w wr:World}{X:Nat→Prop}{N:Nat}{v:Value}{rs:List (List V)}(h:RJ w wr X N v rs):∃a c,v=.slice a rs.length c:=by
 obtain⟨vs,F,h1,own,-⟩:=h.ex
 obtain⟨a,c,e⟩:=own_form4x own
 exact⟨a,c,by rw[e,h1]⟩
theorem RJ.read{w wr:World}{X:Nat→Prop}{N:Nat}{v:Value}{rs:List (List V)}(h:RJ w wr X N v rs):RowsA wr N v rs:=by
 obtain⟨vs,F,h1,own,hF,hX,hr⟩:=h.ex
 exact⟨vs,h1,own_row own,fun j hj hj'=>hr j hj hj' wr h.below (Nat.le_refl _) fun _ _=>rfl⟩
theorem RJ.keep{w wr W:World}{X:Nat→Prop}{N:Nat}{v:Value}{rs:List (List V)}(h:RJ w wr X N v rs)(hb:Below w.heap.size w W)(hs:wr.heap.size≤W.heap.size)(hk:∀b,b<wr.heap.size→¬X b→W.heap[b]? = wr.heap[b]?):RJ w W X N v rs:=by
 obtain⟨vs,F,h1,own,hF,hX,hr⟩:=h.ex
 refine⟨hb,vs,F,h1,val.own_stay own fun g hg=>hk g (own.lt g hg).2 (hX g hg),fun b hb=>⟨(hF b hb).1,by have:=(hF b hb).2.1;omega,(hF b hb).2.2⟩,hX,fun j hj hj'=>?_⟩
 exact(hr j hj hj').move hs (fun _ h=>h) fun b hb=>hk b (hF b hb).2.1 (hF b hb).2.2.2
theorem RJ.stay{w wr W:World}{X:Nat→Prop}{N:Nat}{v:Value}{rs:List (List V)}(h:RJ w wr X N v rs)(hb:Below wr.heap.size wr W):RJ w W X N v rs:=
 h.keep (h.below.trans (hb.mono h.below.size)) hb.size fun b hlt _=>hb.block b hlt
theorem RJ.cell{w wr:World}{X:Nat→Prop}{N:Nat}{v:Value}{rs:List (List V)}(h:RJ w wr X N v rs)(b:Nat)(hX:X b)(hb:w.heap.size≤b)(i:Nat)(u:Value):RJ w (wr.setCell ⟨b,i,none⟩ u) X N v rs:=
 h.keep (h.below.setCell (p:=⟨b,i,none⟩) hb u) (by simp[World.setCell]) fun k _ hne=>Below.heap_setCell _ _ _ k (fun e=>hne (by rw[show k=b from e];exact hX))
theorem wp_pushS{w:World}{o:Oper}{a:Act}{K:Act→World→Prop}{Q:Exit→Act→World→Prop}(s x:Operand)
 (ho:o.op=.call { callee:=.builtin .append,args:=#[s,x],argTypes:=#[23,23] })
 (w0:World)(X:Nat→Prop)(N:Nat)(v:Value)(rs:List (List V))(hs:a.eval s=v)(hR:RJ w0 w X N v rs)
 (g:Nat)(r:List V)(t:Value)(hx:a.eval x=.slice (some ⟨g,0,none⟩) 1 1)(hg:w.cell? ⟨g,0,none⟩=some t)(ht1:t.oneCell'=true)
 (G:Nat→Prop)(hG:∀b,G b→w0.heap.size≤b∧b<w.heap.size∧v.ownBlock≠some b∧¬X b)(hrob:RobR w0 w N G t r)(hXl:∀b,X b→b<w.heap.size)(hlen:rs.length+1≤1048576)
 (hK:∀v' w',RJ w0 w' X N v' (rs++[r])→w.grownBy w' v.ownBlock→(v'.ownBlock=v.ownBlock∨v'.ownBlock=some w.heap.size)→K (a.put o.dst v') w'):
 o.wp Tryz.prog a w K Q:=by
 obtain⟨i0,hi,hz1,hz2,hz3⟩:=info_parts infoRow
 obtain⟨vs,F,h1,own,hF,hX,hr⟩:=hR.ex
 have hnews:∀j u,[t][j]? = some u→w.cell? ((⟨g,0,none⟩:Addr).add j)=some u:=fun j u hu=>by
  match j,hu with
  |0,hu=>
   obtain rfl:t=u:=by simpa using hu
   exact hg
  |j+1,hu=>simp at hu
 have hone:∀u∈[t],u.oneCell'=true:=fun u hu=>by
  obtain rfl:=List.mem_singleton.1 hu
  exact ht1
 have h63:vs.length+1≤maxLen:=by unfold maxLen;omega
 have hbs:=hR.below.size
 obtain⟨v',w',hrun,k2,k3,_⟩:=run_append_own (P:=Tryz.prog) w w0.heap.size 23 o.type 37 i0 (.slice none 0 0) 1 24 Tryz.underlying23 hi hz1 hz2 hz3 rfl (by decide) v vs.length vs own ⟨g,0,none⟩ 1 1 [t] rfl hnews hone h63 (by omega) hbs
 have own0:w.ownsRow 0 37 1 v vs.length vs:=own_low4 own (Nat.zero_le _)
 have hv:=append_block w 23 o.type 37 i0 (.slice none 0 0) 1 24 Tryz.underlying23 hi hz1 hz2 hz3 v vs.length vs own0 ⟨g,0,none⟩ 1 1 [t] rfl hnews hone h63 (by omega) v' w' hrun
 have hnew:∀b,w0.heap.size≤b∧b<w.heap.size∧v.ownBlock≠some b∧¬X b→w0.heap.size≤b∧b<w'.heap.size∧v'.ownBlock≠some b∧¬X b:=fun b hb=>by
  refine⟨hb.1,Nat.lt_of_lt_of_le hb.2.1 k3.size,?_,hb.2.2.2⟩
  rcases hv with e|e
  ·rw[e];exact hb.2.2.1
  ·rw[e]
   intro e2
   injection e2 with e2
   have:=hb.2.1
   omega
 have hRn:RJ w0 w' X N v' (rs++[r]):=by
  refine⟨hR.below.grown k3 hbs (fun g hg=>(own.lt g hg).1),vs++[t],fun b=>F b∨G b,by rw[List.length_append,List.length_append,h1];rfl,by rw[List.length_append];exact k2,?_,?_,?_⟩
  ·intro b hb
   rcases hb with hb|hb
   ·exact hnew b (hF b hb)
   ·exact hnew b (hG b hb)
  ·intro g hg hXg
   rcases hv with e|e
   ·rw[e]at hg
    exact hX g hg hXg
   ·rw[e]at hg
    injection hg with hg
    have:=hXl g hXg
    omega
  ·intro j hj hj'
   by_cases hlt:j<vs.length
   ·have e1:(vs++[t])[j]'hj=vs[j]:=List.getElem_append_left hlt
    have e2:(rs++[r])[j]'hj'=rs[j]'(by omega):=List.getElem_append_left (by omega)
    rw[e1,e2]
    exact(hr j hlt (by omega)).move k3.size (fun b hb=>.inl hb) fun b hb=>k3.block b (hF b hb).2.1 (fun e=>(hF b hb).2.2.1 e.symm)
   ·have hje:j=vs.length:=by rw[List.length_append]at hj;simp at hj;omega
    have e1:(vs++[t])[j]'hj=t:=by simp[hje]
    have e2:(rs++[r])[j]'hj'=r:=by simp[hje,h1]
    rw[e1,e2]
    exact hrob.move k3.size (fun b hb=>.inr hb) fun b hb=>k3.block b (hG b hb).2.1 (fun e=>(hG b hb).2.2.1 e.symm)
 have hfin:=hK v' w' hRn k3 hv
 unfold Oper.wp execOp
 simp only[ho,resolve,invoke,builtin,Sem.run_bind,Sem.run_pure,Result.andThen_ok,List.map_toArray,List.map_cons,List.map_nil,hs,hx,hrun]
 exact hfin
end Go.Proofs.YtidplkfhodpdhaaGreatDoor.tab
