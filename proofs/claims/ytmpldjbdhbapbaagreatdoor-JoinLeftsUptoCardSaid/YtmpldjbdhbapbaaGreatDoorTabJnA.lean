/- Texts TabJd, TabJoinM, one behind the other. -/
import Derived.Test.YtmpldjbdhbapbaaGreatDoorTabJmA
set_option linter.unusedSimpArgs false
set_option linter.unusedVariables false
set_option maxRecDepth 100000
set_option maxHeartbeats 4000000
namespace Go.Proofs.YtmpldjbdhbapbaaGreatDoor.tab
open Go.ChangeShapes Go.WideShapes Go.ChangeAt Go.RowKit kit dec val
open hyp (RowA TextsA CellsStay stay_of_below textsV own_row)
theorem at_getE(A B:List ByteArray)(k:Nat)(h:k<(numsN (atN A B)).length)(hk:k<B.length):(numsN (atN A B))[k]=.int .i64 (((B.foldl addN A).idxOf B[k]:Nat):Int):=by simp[numsN,atN]
theorem below_setJ{w W:World}{g:Nat}(h:Below w.heap.size w W)(hg:w.heap.size≤g)(i:Nat)(k:Int)(b:Bool)(n:Int)(t x:ByteArray)(s:Value):Below w.heap.size w ((((((W.setCell ⟨g,i * 6,none⟩ (.int .i64 k)).setCell ⟨g,i * 6+1,none⟩ (.bool b)).setCell ⟨g,i * 6+2,none⟩ (.int .i64 n)).setCell ⟨g,i * 6+3,none⟩ (.string t)).setCell ⟨g,i * 6+4,none⟩ (.string x)).setCell ⟨g,i * 6+5,none⟩ s):=
 (((((h.setCell (p:=⟨g,i * 6,none⟩) hg _).setCell (p:=⟨g,i * 6+1,none⟩) hg _).setCell (p:=⟨g,i * 6+2,none⟩) hg _).setCell (p:=⟨g,i * 6+3,none⟩) hg _).setCell (p:=⟨g,i * 6+4,none⟩) hg _).setCell (p:=⟨g,i * 6+5,none⟩) hg _
theorem blk_setJ{W:World}{g p:Nat}{cs:Array Value}{ty:TypeId}(h:Blk W p cs ty)(hg:p≠g)(i:Nat)(k:Int)(b:Bool)(n:Int)(t x:ByteArray)(s:Value):Blk ((((((W.setCell ⟨g,i * 6,none⟩ (.int .i64 k)).setCell ⟨g,i * 6+1,none⟩ (.bool b)).setCell ⟨g,i * 6+2,none⟩ (.int .i64 n)).setCell ⟨g,i * 6+3,none⟩ (.string t)).setCell ⟨g,i * 6+4,none⟩ (.string x)).setCell ⟨g,i * 6+5,none⟩ s) p cs ty:=
 (((((h.set_other ⟨g,i * 6,none⟩ hg _).set_other ⟨g,i * 6+1,none⟩ hg _).set_other ⟨g,i * 6+2,none⟩ hg _).set_other ⟨g,i * 6+3,none⟩ hg _).set_other ⟨g,i * 6+4,none⟩ hg _).set_other ⟨g,i * 6+5,none⟩ hg _
theorem JO.free{w0 w:World}{N g:Nat}{l:List V}(h:JO w0 w N g l)(i:Nat):w.frozen? ⟨g,i,none⟩=false:=by
 obtain⟨cs,h1,-⟩:=h
 exact h1.free i
def JdP(w:World)(N n:Nat)(A B:List ByteArray)(r s:List V)(e:Ending)(w':World):Prop:=
 Below w.heap.size w w'∧(compat A B r s=true→∃a c,e=.returned (.tuple #[.slice a n c,.bool (shared A B r s),.bool true])∧LA w' N (.slice a n c) (joinR A B r s))∧(compat A B r s=false→e=.returned (.tuple #[.slice none 0 0,.bool false,.bool false]))
theorem step_pack{A B:List ByteArray}{r s:List V}{n:Nat}(hA:A.Nodup)(hB:B.Nodup)(hl:s.length=B.length)(hr:rowB A.length r=true)(hn:(B.foldl addN A).length=n){k:Nat}(h:k<B.length):
 ∃i,(B.foldl addN A).idxOf B[k]=i∧i<n∧(i<A.length↔B[k]∈A)∧(∃hi:i<(outK A B r s k).length,(outK A B r s k)[i]=cellF A r B[k])∧outK A B r s (k+1)=(outK A B r s k).set i (orN (cellF A r B[k]) (s[k]'(by omega))):=
 ⟨_,rfl,by rw[←hn];exact step_at h,step_in h,⟨by rw[outK_length];exact step_at h,step_get hA hB hr h⟩,step_out hA hB hl hr h⟩
theorem joined_any (N : Nat) (hN : N ≤ 1048576) (w : World) (A B : List ByteArray) (r s : List V) (an : Option Addr) (n cn : Nat) (va u1 u2 : Value) (hA : A.Nodup) (hB : B.Nodup) (hr : rowB A.length r = true) (hs : s.length = B.length) (hsm : ∀ v ∈ s, mayV v = true)
 (hn:(B.foldl addN A).length=n)(hnN:n≤N)(hva:RowA w w.heap.size va (numsN (atN A B)))(h1:LA w N u1 r)(h2:LA w N u2 s):
 Calls Tryz.prog 34 #[.agg #[.slice an n cn,va],u1,u2] w fun e w'=>JdP w N n A B r s e w':=by
 obtain⟨ao1,c1,rfl⟩:=h1.form6
 obtain⟨ao2,c2,rfl⟩:=h2.form6
 obtain⟨ao3,c3,rfl,-,hat⟩:=hva.form
 have hrl:r.length=A.length:=by
  unfold rowB at hr
  simp only[Bool.and_eq_true,decide_eq_true_eq]at hr
  exact hr.1
 have hAn:A.length≤n:=by
  obtain⟨m,hm⟩:=foldN_prefix B A
  rw[←hn,hm,List.length_append]
  omega
 have hsl:s.length≤1048576:=by have:=(h2.elems _ _ _ rfl).1;omega
 have hatl:(numsN (atN A B)).length=s.length:=by simp[atN,hs]
 replace hat:∀j (hj:j<B.length),∃b off,ao3=some ⟨b,off,none⟩∧b<w.heap.size∧w.cell? ⟨b,off+j,none⟩=some (.int .i64 (((B.foldl addN A).idxOf B[j]:Nat):Int)):=fun j hj=>by
  obtain⟨b,off,e1,e2,e3⟩:=hat j (by rw[hatl,hs];exact hj)
  exact⟨b,off,e1,e2,by rw[e3,at_getE A B j _ hj]⟩
 rw[hatl]
 have hmk:=make_vals n n (Nat.le_refl _) (by omega) (w.alloc (.cells #[.slice an n cn,.slice ao3 s.length c3] 75))
 have hb0:=(Below.refl w.heap.size w).alloc (Nat.le_refl _) (.cells #[.slice an n cn,.slice ao3 s.length c3] 75)
 have hb1:=Hd (hb0.alloc hb0.size (.cells (zeroCells n) 34))
 have hJ0:=Hd (JO.zero w (w.alloc (.cells #[.slice an n cn,.slice ao3 s.length c3] 75)) N n)
 have hp0:=Hd ((Blk.new w #[.slice an n cn,.slice ao3 s.length c3] 75).alloc (.cells (zeroCells n) 34))
 have hz:=outK_zero A B r s hA hr
 rw[hn]at hz
 replace hz:=Hd hz
 replace hat:=Hd hat
 replace h1:=Hd h1
 replace h2:=Hd h2
 replace hva:=Hd hva
 replace hr:=Hd hr
 replace hsm:=Hd hsm
 replace hs:=Hd hs
 replace hrl:=Hd hrl
 replace hn:=Hd hn
 clear hb0 hatl
 go_enter Tryz.func34,Tryz.ntmps34
 go_wp2_with (with_reducible refine wpList_copyJ rfl _ _ rfl w N (w.heap.size+1) n n ?q1 (List.replicate n nullV) ?q2 ?q3 ao1 c1 r ?q4 ?q5 ?q6 ?q7 ?q8 ?ca)
 case q1=>rfl
 case q2=>simp
 case q3=>simpa using hJ0.out
 case q4=>rfl
 case q5=>exact h1.out
 case q6=>exact hb1.out
 case q7=>rw[hrl.out];exact hAn
 case q8=>exact Nat.le_succ _
 case ca =>
  intro w2 hJ hb2 hsz hoth
  have hsz2:w2.heap.size=w.heap.size+2:=by simpa using hsz
  have hp2:Hid (Blk w2 w.heap.size #[.slice an n cn,.slice ao3 s.length c3] 75):=Hd ((hoth _ (by omega)).trans hp0.out)
  have hJ2:Hid (JO w w2 N (w.heap.size+1) (outK A B r s 0)):=Hd (by rw[hz.out];simpa using hJ)
  replace hb2:=Hd hb2
  clear hJ hJ0 hb1 hp0 hmk hsz hoth
  go_wp2
  go_loopw [6,7,21] (fun o sh i wr=>∃k:Nat,o=.slice (some ⟨w.heap.size+1,0,none⟩) n n∧k≤s.length∧i=.int .i64 (k:Int)∧sh=.bool (sharedK A B r s k)∧Hid (okK A B r s k)∧Hid (JO w wr N (w.heap.size+1) (outK A B r s k))∧Hid (Below w.heap.size w wr)∧Hid (Blk wr w.heap.size #[.slice an n cn,.slice ao3 s.length c3] 75)) (fun _ _ i _=>s.length-(intOf i).toNat)
  case atStart=>exact⟨0,rfl,Nat.zero_le _,rfl,by simp[sharedK],Hd (fun x hx=>by simp at hx),hJ2,hb2,hp2⟩
  case round =>
   clear hJ2 hb2 hp2 hsz2
   obtain⟨k,rfl,hk,rfl,rfl,hok,hJ,hb,hp⟩:=hrel
   by_cases hlt:k<s.length
   ·have hki:(k:Int)<(s.length:Int):=by omega
    have hkB:k<B.length:=by have:=hs.out;omega
    obtain⟨b1,o1,rfl,hb1,hcell⟩:=hat.out k hkB
    obtain⟨i,hix,hin,hiA,⟨hil,hget⟩,hstep⟩:=step_pack hA hB hs.out hr.out hn.out hkB
    rw[hix]at hcell
    have hsh:=step_shared (A:=A) (r:=r) hB hs.out hkB
    have hoks:=step_ok (A:=A) (r:=r) hB hs.out hkB
    have hcm:=cell_may hr.out B[k]
    have hvm:=hsm.out s[k] (List.getElem_mem _)
    obtain⟨b2,o2,k2,bo2,n2,t2,x2,l2,aoE,capE,rfl,he,hr2,ho2,hl2⟩:=la_at h2.out k hlt
    have hp1:=Hd (hp.out.alloc (.cells #[.int .i64 k2,.bool bo2,.int .i64 n2,.string t2,.string x2,.slice aoE l2.length capE] 34))
    have hJ1:=Hd (hJ.out.alloc (.cells #[.int .i64 k2,.bool bo2,.int .i64 n2,.string t2,.string x2,.slice aoE l2.length capE] 34))
    have hb1':=Hd (hb.out.alloc hb.out.size (.cells #[.int .i64 k2,.bool bo2,.int .i64 n2,.string t2,.string x2,.slice aoE l2.length capE] 34))
    have z1:=hp1.out.cell 1 rfl
    replace hcell:=sB hb1'.out hcell
    obtain⟨k1,bo1,n1,t1,x1,l1,s1,he1,ho1,hl1,hr1⟩:=hJ1.out.row i hil
    have hself:(outK A B r s k).set i (outK A B r s k)[i]=outK A B r s k:=List.set_getElem_self _
    rw[he1]at hself
    rw[hget]at he1
    rw[he]at hstep hsh hoks hvm
    rw[he1]at hstep hsh hoks hcm
    replace hix:=Hd hix
    have hii:(i:Int)<(n:Int):=by omega
    replace hr2:=hr2.below hb.out
    obtain⟨x0,x1',x2',x3,x4,x5⟩:=hr2.six
    obtain⟨y0,y1,y2,y3,y4,y5⟩:=hr1.six
    have hk1:=Hd (show k+1≤s.length from hlt)
    by_cases hz2:k2=0
    ·subst hz2
     have hnul:isN (.mk 0 bo2 n2 t2 x2 l2)=true:=rfl
     rw[orN_isN hcm hvm hnul,hself]at hstep
     rw[hnul]at hsh
     simp only[Bool.not_true,Bool.and_false,Bool.or_false]at hsh
     have hok':okK A B r s (k+1):=hoks.2 ⟨hok.out,fun _=>by simp[okC,hnul]⟩
     replace hok':=Hd hok'
     rw[←hsh]
     rw[←hstep]at hJ1
     replace hsh:=Hd hsh
     replace hstep:=Hd hstep
     clear hself hget he he1 hoks hcm hvm hnul hiA hr1 hr2 hl1 hl2
     go_wp2
     go_roundw
     case rel=>exact⟨k+1,rfl,hk1.out,by go_num,rfl,hok',hJ1,hb1',hp1⟩
     case measure=>have:=hk1.out;simp[intOf];omega
    ·have hz2b:(k2==0)=false:=beq_eq_false_iff_ne.2 hz2
     have f0:=hJ1.out.free
     have z0:k1≠0→i<r.length:=fun hne=>by
      rw[hrl.out]
      refine Classical.byContradiction fun hge=>?_
      have hnA:B[k]∉A:=fun hin2=>hge (hiA.2 hin2)
      rw[cell_out hrl.out hnA]at he1
      injection he1 with e1
      exact hne e1.symm
     by_cases hz1:k1=0
     ·subst hz1
      have hnul:isN (.mk 0 bo1 n1 t1 x1 l1)=true:=rfl
      rw[orN_of hnul]at hstep
      rw[hnul]at hsh
      simp only[Bool.not_true,Bool.and_false,Bool.false_and,Bool.or_false]at hsh
      have hok':okK A B r s (k+1):=hoks.2 ⟨hok.out,fun _=>by simp[okC,hnul]⟩
      replace hok':=Hd hok'
      have hJ2:=hJ1.out.set i hil k2 bo2 n2 t2 x2 l2 (.slice aoE l2.length capE) ho2 hl2
      rw[←hstep]at hJ2
      replace hJ2:=Hd hJ2
      have hb2':=Hd (below_setJ hb1'.out (g:=w.heap.size+1) (Nat.le_succ _) i k2 bo2 n2 t2 x2 (.slice aoE l2.length capE))
      have hp2:=Hd (blk_setJ hp1.out (g:=w.heap.size+1) (by omega) i k2 bo2 n2 t2 x2 (.slice aoE l2.length capE))
      rw[←hsh]
      replace hsh:=Hd hsh
      replace hstep:=Hd hstep
      have hx:=(Blk.new wr #[.int .i64 k2,.bool bo2,.int .i64 n2,.string t2,.string x2,.slice aoE l2.length capE] 34).cell 0 rfl
      clear hself hget he he1 hoks hcm hvm hnul hiA hr1 hr2 hl1 hl2 z0
      by_cases hri:r.length≤i
      ·have hri2:(r.length:Int)≤(i:Int):=by omega
       go_wp2
       go_roundw
       case rel=>exact⟨k+1,rfl,hk1.out,by go_num,rfl,hok',hJ2,hb2',hp2⟩
       case measure=>have:=hk1.out;simp[intOf];omega
      ·have hri2:¬(r.length:Int)≤(i:Int):=by omega
       go_wp2
       go_roundw
       case rel=>exact⟨k+1,rfl,hk1.out,by go_num,rfl,hok',hJ2,hb2',hp2⟩
       case measure=>have:=hk1.out;simp[intOf];omega
     ·have hz1b:(k1==0)=false:=beq_eq_false_iff_ne.2 hz1
      have hir:=z0 hz1
      have hri2:¬(r.length:Int)≤(i:Int):=by omega
      have hbk:B[k]∈A:=hiA.1 (by rw[←hrl.out];exact hir)
      have q1:isN (.mk k1 bo1 n1 t1 x1 l1)=false:=decide_eq_false hz1
      have q2:isN (.mk k2 bo2 n2 t2 x2 l2)=false:=decide_eq_false hz2
      have hoc:okC (.mk k1 bo1 n1 t1 x1 l1) (.mk k2 bo2 n2 t2 x2 l2)=sameP (.mk k1 bo1 n1 t1 x1 l1) (.mk k2 bo2 n2 t2 x2 l2):=by unfold okC;rw[q1,q2];simp
      rw[hoc]at hoks
      rw[orN_not q1,hself]at hstep
      rw[q1,q2]at hsh
      simp only[hbk,decide_true,Bool.not_false,Bool.and_self,Bool.or_true]at hsh
      rw[←hstep]at hJ1
      have hdw:Below (wr.alloc (.cells #[.int .i64 k2,.bool bo2,.int .i64 n2,.string t2,.string x2,.slice aoE l2.length capE] 34)).heap.size (wr.alloc (.cells #[.int .i64 k2,.bool bo2,.int .i64 n2,.string t2,.string x2,.slice aoE l2.length capE] 34)) (wr.alloc (.cells #[.int .i64 k2,.bool bo2,.int .i64 n2,.string t2,.string x2,.slice aoE l2.length capE] 34)).drew:=below_drewN (Below.refl _ _) 1
      have hb3:=hb1'.out.trans (hdw.mono hb1'.out.size)
      have hS0:Row6 (wr.alloc (.cells #[.int .i64 k2,.bool bo2,.int .i64 n2,.string t2,.string x2,.slice aoE l2.length capE] 34)).drew (w.heap.size+1) (i * 6) k1 bo1 n1 t1 x1 s1∧Blk (wr.alloc (.cells #[.int .i64 k2,.bool bo2,.int .i64 n2,.string t2,.string x2,.slice aoE l2.length capE] 34)).drew wr.heap.size #[.int .i64 k2,.bool bo2,.int .i64 n2,.string t2,.string x2,.slice aoE l2.length capE] 34:=⟨hr1.below hdw,(Blk.new wr _ _)⟩
      have hJ3:=hJ1.out.stay hdw
      have hp3:Blk (wr.alloc (.cells #[.int .i64 k2,.bool bo2,.int .i64 n2,.string t2,.string x2,.slice aoE l2.length capE] 34)).drew w.heap.size #[.slice an n cn,.slice (some ⟨b1,o1,none⟩) s.length c3] 75:=hp1.out
      have hcall:=same_call N (by omega) (wr.alloc (.cells #[.int .i64 k2,.bool bo2,.int .i64 n2,.string t2,.string x2,.slice aoE l2.length capE] 34)).drew k1 bo1 n1 t1 x1 s1 l1 k2 bo2 n2 t2 x2 (.slice aoE l2.length capE) l2 (hl1.stay hb3) (hl2.stay hb3)
      unfold agg6 at hcall
      have hne:sameP (.mk k1 bo1 n1 t1 x1 l1) (.mk k2 bo2 n2 t2 x2 l2)=false→compat A B r s=false:=fun hf=>by
       rw[Bool.eq_false_iff]
       intro hc
       have h5:=(okK_end A B r s).2 hc B[k] (by rw[List.take_length];exact List.getElem_mem _) hbk
       rw[he1,step_cell hB hs.out hkB,he,hoc,hf]at h5
       cases h5
      have hyes:sameP (.mk k1 bo1 n1 t1 x1 l1) (.mk k2 bo2 n2 t2 x2 l2)=true→okK A B r s (k+1):=fun ht=>hoks.2 ⟨hok.out,fun _=>ht⟩
      generalize sameP (.mk k1 bo1 n1 t1 x1 l1) (.mk k2 bo2 n2 t2 x2 l2)=b at hcall hne hyes
      have hx:=(Blk.new wr #[.int .i64 k2,.bool bo2,.int .i64 n2,.string t2,.string x2,.slice aoE l2.length capE] 34).cell 0 rfl
      replace hcall:=Hd hcall
      replace hne:=Hd hne
      replace hyes:=Hd hyes
      replace hb3:=Hd hb3
      replace hJ3:=Hd hJ3
      replace hp3:=Hd hp3
      replace hsh:=Hd hsh
      clear hself hget he he1 hoks hcm hvm hiA hr1 hr2 hl1 hl2 z0 hstep q1 q2 hoc hdw hbk
      go_upto_region 11 with fail
      refine wp_region_held_drew (S:=fun V=>Row6 V (w.heap.size+1) (i * 6) k1 bo1 n1 t1 x1 s1∧Blk V wr.heap.size #[.int .i64 k2,.bool bo2,.int .i64 n2,.string t2,.string x2,.slice aoE l2.length capE] 34) (by kernel_rfl) hS0 (fun hS=>?_)
      have hV:=hS0
      clear hS0 hJ1 hb1' hp1 hJ hb hp hx hcell x0 x1' x2' x3 x4 x5 y0 y1 y2 y3 y4 y5 f0 z1
      generalize (wr.alloc (.cells #[.int .i64 k2,.bool bo2,.int .i64 n2,.string t2,.string x2,.slice aoE l2.length capE] 34)).drew=V0 at *
      refine tkS [0,1,2,3,4] ?_
      iterate 5
       refine tkC ?_ rfl (fun w' hS=>?_) hS ?_
       rotate_left
       ·
        obtain⟨x0,x1,x2,x3,x4,x5⟩:=hS.1.six;have y0:=hS.2.cell 0 rfl;have y1:=hS.2.cell 1 rfl;have y2:=hS.2.cell 2 rfl;have y3:=hS.2.cell 3 rfl;have y4:=hS.2.cell 4 rfl;have y5:=hS.2.cell 5 rfl
        go_simp
        try with_reducible rfl
      refine rdH 5 rfl (fun K hK=>?_)
      clear hS
      go_simp
      refine(hcall.out).mono ?_
      rintro e w5 ⟨rfl,hb5⟩
      go_wp2_with fail
      refine hKo hK (⟨hV.1.below hb5,(hb5.block _ hV.2.lt).trans hV.2⟩) (fun hS=>?_)
      clear hK K
      refine tkS [6,7] ?_
      iterate 2
       refine tkC ?_ rfl (fun w' hS=>?_) hS ?_
       rotate_left
       ·
        skip
        go_simp
        try with_reducible rfl
      have hb6:=Hd (hb3.out.trans (hb5.mono hb3.out.size))
      have hJ6:=Hd (hJ3.out.stay hb5)
      have hp6:=Hd ((hb5.block _ hp3.out.lt).trans hp3.out)
      refine wpAnyH_done (by kernel_rfl) ?_ _
      clear hS hb5 hcall hV hb3 hJ3 hp3
      cases b
      ·have hne2:=Hd (hne.out rfl)
       clear hne hyes
       go_wp2
       go_ret3
       exact⟨hb6.out,(fun h=>by rw[hne2.out]at h;cases h),fun _=>rfl⟩
      ·have hyes2:=Hd (hyes.out rfl)
       clear hne hyes
       go_wp2
       go_roundw
       case rel=>exact⟨k+1,rfl,hk1.out,by go_num,by rw[hsh.out],hyes2,hJ6,hb6,hp6⟩
       case measure=>have:=hk1.out;simp[intOf];omega
   ·have hki:¬(k:Int)<(s.length:Int):=by omega
    obtain rfl:k=s.length:=by omega
    have hcompat:compat A B r s=true:=(okK_end A B r s).1 (by rw[←hs.out];exact hok.out)
    have hshE:sharedK A B r s s.length=shared A B r s:=by rw[hs.out,sharedK_end]
    have hfin:LA wr N (.slice (some ⟨w.heap.size+1,0,none⟩) n n) (joinR A B r s):=by
     have h:=hJ.out
     rw[hs.out,outK_end A B r s hs.out]at h
     have hl:(joinR A B r s).length=n:=by unfold joinR;rw[List.length_map,hn.out]
     have h3:=h.read (c:=n) (by rw[hl];exact hnN) hb.out
     rw[hl]at h3
     exact h3
    rw[hshE]
    replace hfin:=Hd hfin
    replace hcompat:=Hd hcompat
    clear hshE
    go_wp2
    go_ret3
    exact⟨hb.out,fun _=>⟨_,_,rfl,hfin.out⟩,fun h=>by rw[hcompat.out]at h;cases h⟩
open hyp (RowA TextsA CellsStay stay_of_below textsV textsV_length own_row)
def TabO(w0 w:World)(N:Nat)(v:Value)(t:Tab):Prop:=
 ∃vv rv,v=.agg #[vv,rv]∧Below w0.heap.size w0 w∧w.ownsRow w0.heap.size 9 1 vv t.vars.length (textsV t.vars)∧(∀s∈t.vars,s.size≤maxLen)∧MR w N (Fr w0.heap.size w) rv t.rows
theorem TabO.below{w0 w:World}{N:Nat}{v:Value}{t:Tab}(h:TabO w0 w N v t):Below w0.heap.size w0 w:=by
 obtain⟨_,_,_,h,_⟩:=h
 exact h
theorem TabO.read{w0 w:World}{N:Nat}{v:Value}{t:Tab}(h:TabO w0 w N v t):TabA w N v t:=by
 obtain⟨vv,rv,e,hb,ho,hs,hr⟩:=h
 exact⟨vv,rv,e,⟨own_row (by rw[textsV_length];exact ho),hs⟩,hr.read⟩
theorem tabO_zero{w W:World}{N:Nat}(hb:Below w.heap.size w W):TabO w W N (.agg #[.slice none 0 0,.slice none 0 0]) ⟨[],[]⟩:=
 ⟨_,_,rfl,hb,World.ownsRow_nil _ _ _ _,by simp,MR.nil _ _ _⟩
theorem infoTab:(Tryz.prog.info? 25).map (·.size)=some 2:=by kernel_rfl
structure JnW(w2 wr:World)(N:Nat)(names rv:Value)(L:List (List V)):Prop where
 below:Below w2.heap.size w2 wr
 tb:Blk wr w2.heap.size #[names,rv] 25
 rows:MR wr N (fun b=>w2.heap.size<b∧b<wr.heap.size) rv L
theorem JnW.start(w2:World)(N:Nat)(names:Value):JnW w2 (w2.alloc (.cells #[names,.slice none 0 0] 25)) N names (.slice none 0 0) []:=
 ⟨(Below.refl _ _).alloc (Nat.le_refl _) _,Blk.new _ _ _,MR.nil _ _ _⟩
theorem JnW.stay{w2 wr w':World}{N:Nat}{names rv:Value}{L:List (List V)}(h:JnW w2 wr N names rv L)(hb:Below wr.heap.size wr w'):JnW w2 w' N names rv L:=
 ⟨h.below.trans (hb.mono h.below.size),(hb.block _ h.tb.lt).trans h.tb,(h.rows.stay fun b hS hlt=>hb.block b hlt).mono fun b hS=>⟨hS.1,Nat.lt_of_lt_of_le hS.2 hb.size⟩⟩
theorem JnW.slice{w2 wr:World}{N:Nat}{names rv:Value}{L:List (List V)}(h:JnW w2 wr N names rv L):∃a c,rv=.slice a L.length c:=h.rows.form
theorem JnW.push{w2 wr w':World}{N:Nat}{names rv v':Value}{L:List (List V)}{x:List V}{S T:Nat→Prop}(h:JnW w2 wr N names rv L)
 (hM:MR w' N (fun b=>S b∨T b∨(wr.heap.size≤b∧b<w'.heap.size)) v' (L++[x]))(hg:wr.grownBy w' rv.ownBlock)(hv:∀g,rv.ownBlock=some g→w2.heap.size<g∧g<wr.heap.size)(hS:∀b,S b→w2.heap.size<b∧b<w'.heap.size)(hT:∀b,T b→w2.heap.size<b∧b<w'.heap.size):
 JnW w2 (w'.setCell ⟨w2.heap.size,1,none⟩ v') N names v' (L++[x]):=by
 have htl:=h.tb.lt
 have e1:Blk w' w2.heap.size #[names,rv] _:=(hg.block _ h.tb.lt (fun e=>by have:=(hv _ e.symm).1;omega)).trans h.tb
 have hb:=h.below.grown hg h.below.size (fun g e=>by have:=(hv g e).1;omega)
 refine⟨hb.setCell (p:=⟨w2.heap.size,1,none⟩) (Nat.le_refl _) v',e1.set 1 v',?_⟩
 have hsz:(w'.setCell ⟨w2.heap.size,1,none⟩ v').heap.size=w'.heap.size:=by simp[World.setCell]
 have hgs:=hg.size
 have hall:∀b,(S b∨T b∨(wr.heap.size≤b∧b<w'.heap.size))→w2.heap.size<b∧b<w'.heap.size:=fun b hb=>by
  rcases hb with hb|hb|hb
  ·exact hS b hb
  ·exact hT b hb
  ·omega
 refine(hM.stay fun b hb _=>Below.heap_setCell w' _ v' b ?_).mono fun b hb=>?_
 ·have:=(hall b hb).1;simp;omega
 ·rw[hsz];exact hall b hb
theorem own_keep{w w':World}{B k:Nat}{t:TypeId}{v:Value}{n:Nat}{xs:List Value}(h:w.ownsRow B t k v n xs)(hb:Below w.heap.size w w'):w'.ownsRow B t k v n xs:=
 own_stay h fun g hg=>hb.block g (h.lt g hg).2
theorem JnW.done{w w2 wr:World}{N B rb:Nat}{names rv:Value}{vars:List ByteArray}{L:List (List V)}(h:JnW w2 wr N names rv L)(hb:Below w.heap.size w w2)
 (own:w2.ownsRow B 9 1 names vars.length (textsV vars))(hB:w.heap.size≤B)(hsz:∀s∈vars,s.size≤maxLen)(hrb:Blk w2 rb #[.slice none 0 0,.slice none 0 0] 25)(hlow:w.heap.size≤rb):
 Blk ((wr.setCell ⟨rb,0,none⟩ names).setCell ⟨rb,1,none⟩ rv) rb #[names,rv] 25∧TabO w ((wr.setCell ⟨rb,0,none⟩ names).setCell ⟨rb,1,none⟩ rv) N (.agg #[names,rv]) ⟨vars,L⟩:=by
 have hr1:Blk wr rb #[.slice none 0 0,.slice none 0 0] _:=(h.below.block _ hrb.lt).trans hrb
 have hr2:=hr1.set 0 names
 have hr3:=hr2.set 1 rv
 refine⟨hr3,names,rv,rfl,?_,?_,hsz,?_⟩
 ·exact((hb.trans (h.below.mono hb.size)).setCell (p:=⟨rb,0,none⟩) hlow names).setCell (p:=⟨rb,1,none⟩) hlow rv
 ·exact own_set (own_set (own_low4 (own_keep own h.below) hB) hr1 (by decide) 0 names) hr2 (by decide) 1 rv
 ·have hsz:((wr.setCell ⟨rb,0,none⟩ names).setCell ⟨rb,1,none⟩ rv).heap.size=wr.heap.size:=by simp[World.setCell]
  have hlt:=hrb.lt
  have hbs:=hb.size
  refine(h.rows.stay fun b hS _=>?_).mono fun b hS=>?_
  ·have:=hS.1
   rw[Below.heap_setCell _ _ _ b (by simp;omega),Below.heap_setCell _ _ _ b (by simp;omega)]
  ·exact⟨by have:=hS.1;omega,by rw[hsz];exact hS.2⟩
end Go.Proofs.YtmpldjbdhbapbaaGreatDoor.tab
