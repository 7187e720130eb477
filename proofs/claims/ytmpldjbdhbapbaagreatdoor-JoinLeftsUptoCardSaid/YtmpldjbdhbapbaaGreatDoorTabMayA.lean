/- Texts TabUnl, TabRMay, one behind the other. -/
import Derived.Test.YtmpldjbdhbapbaaGreatDoorTabIA
import Derived.Test.YtmpldjbdhbapbaaGreatDoorRMayA
set_option linter.unusedSimpArgs false
set_option linter.unusedVariables false
set_option maxRecDepth 100000
set_option maxHeartbeats 4000000
namespace Go.Proofs.YtmpldjbdhbapbaaGreatDoor.tab
open Go.ChangeShapes Go.WideShapes Go.ChangeAt Go.RowKit kit dec val
open hyp (RowA TextsA CellsStay stay_of_below textsV textsV_length own_row)
def unlikeB(l:List ByteArray):Bool:=l.all val.nameB&&decide l.Nodup
theorem nodup_of{l:List ByteArray}(h:∀j (hj:j<l.length),l[j]∉l.take j):l.Nodup:=by
 unfold List.Nodup
 rw[List.pairwise_iff_getElem]
 intro i j hi hj hij e
 refine h j hj ?_
 rw[←e]
 rw[List.mem_iff_getElem]
 exact⟨i,by rw[List.length_take];omega,by rw[List.getElem_take]⟩
theorem not_nodup{l:List ByteArray}{k:Nat}(hk:k<l.length)(h:l[k]∈l.take k):¬l.Nodup:=by
 intro hn
 unfold List.Nodup at hn
 rw[List.pairwise_iff_getElem]at hn
 obtain⟨i,hi,e⟩:=List.getElem_of_mem h
 rw[List.length_take]at hi
 rw[List.getElem_take]at e
 exact hn i k (by omega) hk (by omega) e
theorem unlike_any(w:World)(v:Value)(l:List ByteArray)(h:TextsA w w.heap.size v l)(hl:l.length≤1048576):
 Calls Tryz.prog 14 #[v] w fun e w'=>e=.returned (.bool (unlikeB l))∧Below w.heap.size w w':=by
 obtain⟨ao,cap,rfl,hc⟩:=h.form
 obtain⟨q,hq⟩:∃q,unlikeB l=q:=⟨_,rfl⟩
 rw[hq]
 have hcap:0<l.length→l.length≤cap:=by
  intro h0
  rcases h.row with⟨_,_,he,h1⟩|⟨b,off,c,he,-,h1,-⟩
  ·have:=congrArg List.length h1;rw[textsV_length,List.length_nil]at this;omega
  ·injection he with e1 e2 e3
   rw[textsV_length]at h1
   omega
 have hsz:=Hd h.size
 replace hc:=Hd hc
 replace hq:=Hd hq
 clear h
 go_enter Tryz.func14,Tryz.ntmps14
 go_wp2
 go_loopw [3] (fun i wr=>∃k:Nat,k≤l.length∧i=.int .i64 (k:Int)∧Hid (Below w.heap.size w wr)∧Hid (∀j (hj:j<l.length),j<k→val.nameB l[j]=true∧l[j]∉l.take j)) (fun i _=>l.length-(intOf i).toNat)
 case atStart=>exact⟨0,by omega,rfl,Hd (Below.refl _ _),Hd (fun j _ h=>by omega)⟩
 case round =>
  obtain⟨k,hk,rfl,hb,hin⟩:=hrel
  by_cases hlt:k<l.length
  ·have hki:(k:Int)<(l.length:Int):=by omega
   have hk1:=Hd (show k+1≤l.length from hlt)
   obtain⟨b,off,hao,-,hck⟩:=hc.out k hlt
   have hbd:Hid (Below w.heap.size w wr.drew):=Hd (hb.out.trans ⟨rfl,rfl,rfl,Nat.le_refl _,fun _ _=>rfl⟩)
   have hnm:=fun V=>val.rname_any l[k] V (by have:=hsz.out _ (List.getElem_mem hlt);unfold maxLen at this;omega)
   have hlen:(l.take k).length=k:=by rw[List.length_take];omega
   have hix:=fun V (hV:Below w.heap.size w V)=>rindex_any V ao cap (l.take k) l[k] (by omega) (fun j hj=>by
    rw[hlen]at hj
    obtain⟨b,off,h1,h2,h3⟩:=hc.out j (by omega)
    exact⟨b,off,h1,Nat.lt_of_lt_of_le h2 hV.size,by rw[(stay_of_below hV).cell h3,List.getElem_take]⟩)
   rw[hlen]at hix
   have hneg:=idxI_neg (l.take k) l[k]
   have hcap2:=hcap (by omega)
   have hkc:(k:Int)≤(cap:Int):=by omega
   have hall:Hid (val.nameB l[k]=true→l[k]∉l.take k→∀j (hj:j<l.length),j<k+1→val.nameB l[j]=true∧l[j]∉l.take j):=Hd fun h1 h2 j hj h=>by
    by_cases hjk:j=k
    ·subst hjk;exact⟨h1,h2⟩
    ·exact hin.out j hj (by omega)
   have hno1:Hid (val.nameB l[k]=false→q=false):=Hd fun h1=>by
    rw[←hq.out]
    unfold unlikeB
    rw[show l.all val.nameB=false by rw[List.all_eq_false];exact⟨_,List.getElem_mem hlt,fun h2=>Bool.noConfusion (h1.symm.trans h2)⟩]
    rfl
   have hno2:Hid (l[k]∈l.take k→q=false):=Hd fun h1=>by
    rw[←hq.out]
    unfold unlikeB
    rw[decide_eq_false (not_nodup hlt h1),Bool.and_false]
   obtain⟨d,hd⟩:∃d,decide (l[k]∈l.take k)=d:=⟨_,rfl⟩
   have hdm:Hid (d=true→l[k]∈l.take k):=Hd fun h=>of_decide_eq_true (hd.trans h)
   have hdn:Hid (d=false→l[k]∉l.take k):=Hd fun h=>of_decide_eq_false (hd.trans h)
   rw[hd]at hneg
   clear hin hd
   subst hao
   generalize hx:l[k]=s at *
   generalize l.take k=lt at *
   generalize idxI lt s=ix at *
   clear hx
   clear hb
   cases hnb:val.nameB s with
   | false =>
    have hqf:=Hd (hno1.out hnb)
    rw[hnb]at hnm
    replace hnm:=Hd hnm
    replace hnb:=Hd hnb
    clear hix hno1 hno2 hall hdm hdn hneg
    go_wp2_with fail
    refine wp_region_held_drew (S:=fun V=>Below w.heap.size w V) (by kernel_rfl) hbd.out (fun hS=>?_)
    generalize wr.drew=V0 at *
    refine tkS [0,1,2,3] ?_
    iterate 4
     refine tkC ?_ rfl (fun w' hS=>?_) hS ?_
     rotate_left
     ·
      have q1:=sB hS hck
      go_simp
      try with_reducible rfl
    refine rdH 4 rfl (fun K hK=>?_)
    clear hS
    go_simp
    refine(hnm.out V0).mono ?_
    rintro e w6 ⟨rfl,rfl⟩
    go_wp2_with fail
    refine hKo hK (hbd.out) (fun hS=>?_)
    clear hK K
    refine tkS [5,6] ?_
    iterate 2
     refine tkC ?_ rfl (fun w' hS=>?_) hS ?_
     rotate_left
     ·
      skip
      go_simp
      try with_reducible rfl
    refine tkS [7,8,9,10,11,12,13,14,15] ?_
    iterate 9 (refine tkV rfl hS ?_)
    refine tkH 16 ?_ rfl (fun w' hS=>?_) hS ?_
    rotate_left
    ·
     skip
     go_simp
     try with_reducible rfl
    refine wpAnyH_done (by kernel_rfl) ?_ _
    clear hS
    go_wp2
    go_ret
    exact⟨ret_bool hqf.out.symm,hbd.out⟩
   | true =>
    rw[hnb]at hnm
    replace hnm:=Hd hnm
    replace hix:=Hd hix
    cases d with
    | true =>
     have hqf:=Hd (hno2.out (hdm.out rfl))
     have h0:0≤ix:=by
      have:¬ix<0:=by simpa using hneg
      omega
     replace hnb:=Hd hnb
     clear hno1 hno2 hall hdm hdn hneg
     go_wp2_with fail
     refine wp_region_held_drew (S:=fun V=>Below w.heap.size w V) (by kernel_rfl) hbd.out (fun hS=>?_)
     have hixV:=Hd (hix.out wr.drew hbd.out)
     generalize wr.drew=V0 at *
     refine tkS [0,1,2,3] ?_
     iterate 4
      refine tkC ?_ rfl (fun w' hS=>?_) hS ?_
      rotate_left
      ·
       have q1:=sB hS hck
       go_simp
       try with_reducible rfl
     refine rdH 4 rfl (fun K hK=>?_)
     clear hS
     go_simp
     refine(hnm.out V0).mono ?_
     rintro e w6 ⟨rfl,rfl⟩
     go_wp2_with fail
     refine hKo hK (hbd.out) (fun hS=>?_)
     clear hK K
     refine tkS [5,6,7,8,9,10,11,12,13] ?_
     iterate 9
      refine tkC ?_ rfl (fun w' hS=>?_) hS ?_
      rotate_left
      ·
       have q1:=sB hS hck
       go_simp
       try with_reducible rfl
     refine rdH 14 rfl (fun K hK=>?_)
     clear hS
     go_simp
     refine(hixV.out).mono ?_
     rintro e w7 ⟨rfl,rfl⟩
     go_wp2_with fail
     refine hKo hK (hbd.out) (fun hS=>?_)
     clear hK K
     refine tkS [15,16] ?_
     iterate 2
      refine tkC ?_ rfl (fun w' hS=>?_) hS ?_
      rotate_left
      ·
       skip
       go_simp
       try with_reducible rfl
     refine wpAnyH_done (by kernel_rfl) ?_ _
     clear hS
     go_wp2
     go_ret
     exact⟨ret_bool hqf.out.symm,hbd.out⟩
    | false =>
     have hin2:=Hd (hall.out hnb (hdn.out rfl))
     have h0:¬0≤ix:=by
      have:ix<0:=by simpa using hneg
      omega
     replace hnb:=Hd hnb
     clear hno1 hno2 hall hdm hdn hneg
     go_wp2_with fail
     refine wp_region_held_drew (S:=fun V=>Below w.heap.size w V) (by kernel_rfl) hbd.out (fun hS=>?_)
     have hixV:=Hd (hix.out wr.drew hbd.out)
     generalize wr.drew=V0 at *
     refine tkS [0,1,2,3] ?_
     iterate 4
      refine tkC ?_ rfl (fun w' hS=>?_) hS ?_
      rotate_left
      ·
       have q1:=sB hS hck
       go_simp
       try with_reducible rfl
     refine rdH 4 rfl (fun K hK=>?_)
     clear hS
     go_simp
     refine(hnm.out V0).mono ?_
     rintro e w6 ⟨rfl,rfl⟩
     go_wp2_with fail
     refine hKo hK (hbd.out) (fun hS=>?_)
     clear hK K
     refine tkS [5,6,7,8,9,10,11,12,13] ?_
     iterate 9
      refine tkC ?_ rfl (fun w' hS=>?_) hS ?_
      rotate_left
      ·
       have q1:=sB hS hck
       go_simp
       try with_reducible rfl
     refine rdH 14 rfl (fun K hK=>?_)
     clear hS
     go_simp
     refine(hixV.out).mono ?_
     rintro e w7 ⟨rfl,rfl⟩
     go_wp2_with fail
     refine hKo hK (hbd.out) (fun hS=>?_)
     clear hK K
     refine tkS [15,16] ?_
     iterate 2
      refine tkC ?_ rfl (fun w' hS=>?_) hS ?_
      rotate_left
      ·
       skip
       go_simp
       try with_reducible rfl
     refine wpAnyH_done (by kernel_rfl) ?_ _
     clear hS
     go_wp2
     go_roundw
     case rel=>exact⟨k+1,hk1.out,by go_num,hbd,hin2⟩
     case measure=>have:=hk1.out;simp[intOf];omega
  ·have hki:¬(k:Int)<(l.length:Int):=by omega
   obtain rfl:k=l.length:=by omega
   have hqt:Hid (q=true):=Hd (by
    rw[←hq.out]
    unfold unlikeB
    rw[decide_eq_true (nodup_of fun j hj=>(hin.out j hj hj).2),Bool.and_true,List.all_eq_true]
    intro s hs
    obtain⟨j,hj,rfl⟩:=List.getElem_of_mem hs
    exact(hin.out j hj hj).1)
   clear hin
   go_wp2
   go_ret
   exact⟨ret_bool hqt.out.symm,hb.out⟩
theorem mayT_row{t:Tab}{j:Nat}(hj:j<t.rows.length)(h:rowB t.vars.length t.rows[j]=false):mayT t=false:=by
 apply Bool.eq_false_iff.2
 intro h2
 rw[(may_rows h2).2 _ (List.getElem_mem hj)]at h
 cases h
theorem names_unlike(l:List ByteArray):namesB l=(decide (l.length≤64)&&unlikeB l):=by unfold namesB unlikeB;rw[Bool.and_assoc]
theorem refMay_any (N : Nat) (hN : N ≤ 1048576) (w : World) (v : Value) (t : Tab) (hT : TabA w N v t) (hv64 : t.vars.length ≤ 1048576) (hr64 : t.rows.length ≤ 1048576) :
 Calls Tryz.prog 5 #[v] w fun e w'=>e=.returned (.bool (mayT t))∧Below w.heap.size w w':=by
 obtain⟨vv,rv,rfl,hV,hR⟩:=hT.ex
 have hal:Below w.heap.size w (w.alloc (.cells #[vv,rv] 25)):=(Below.refl _ _).alloc (Nat.le_refl _) _
 have hq:=Blk.new w #[vv,rv] 25
 have hun:=unlike_any (w.alloc (.cells #[vv,rv] 25)) vv t.vars (TextsA.below hV hal) hv64
 obtain⟨av,cv,rfl,-⟩:=hV.form
 obtain⟨ar,cr,rfl,hlc,hrc⟩:=(hR.stay hal).form
 obtain⟨q,hqd⟩:∃q,mayT t=q:=⟨_,rfl⟩
 have hq1:Hid (64<t.vars.length→q=false):=Hd fun h=>by rw[←hqd];unfold mayT namesB;rw[decide_eq_false (by omega)];rfl
 have hq1b:Hid (unlikeB t.vars=false→q=false):=Hd fun h=>by rw[←hqd];unfold mayT;rw[names_unlike,h,Bool.and_false];rfl
 have hq2:Hid (∀j (hj:j<t.rows.length),rowB t.vars.length t.rows[j]=false→q=false):=Hd fun j hj h=>by rw[←hqd];exact mayT_row hj h
 have hq3:Hid (t.vars.length≤64→unlikeB t.vars=true→(∀j (hj:j<t.rows.length),rowB t.vars.length t.rows[j]=true)→q=true):=Hd fun h1 h1b h2=>by
  rw[←hqd]
  unfold mayT
  rw[names_unlike,decide_eq_true h1,h1b,Bool.true_and,Bool.true_and,List.all_eq_true]
  intro r hr
  obtain⟨j,hj,rfl⟩:=List.getElem_of_mem hr
  exact h2 j hj
 rw[hqd]
 have x0:=hq.cell 0 rfl
 have x1:=hq.cell 1 rfl
 have hal2:=Hd hal
 replace hrc:=Hd hrc
 replace hun:=Hd hun
 generalize unlikeB t.vars=nb at *
 clear hal hT hV hR hq hqd hlc
 go_enter Tryz.func5,Tryz.ntmps5
 by_cases h64:64<t.vars.length
 ·have h64i:(64:Int)<(t.vars.length:Int):=by omega
  have hz:=hq1.out h64
  clear hun
  replace hz:=Hd hz
  go_wp2
  go_ret
  exact⟨ret_bool hz.out.symm,hal2.out⟩
 have h64i:¬(64:Int)<(t.vars.length:Int):=by omega
 go_wp2_with fail
 generalize w.alloc (.cells #[.slice av t.vars.length cv,.slice ar t.rows.length cr] 25)=w1 at *
 refine hun.out.mono ?_
 rintro e w2 ⟨rfl,hb2⟩
 have hB2:=Hd (hal2.out.trans (hb2.mono hal2.out.size))
 have hb2h:=Hd hb2
 replace x0:=sB hb2 x0
 replace x1:=sB hb2 x1
 clear hun hb2
 cases nb with
 |false=>
  have hz:=hq1b.out rfl
  replace hz:=Hd hz
  go_wp2
  go_ret
  exact⟨ret_bool hz.out.symm,hB2.out⟩
 | true =>
  have hq4:=Hd (hq3.out (by omega) rfl)
  have x0h:=Hd x0
  have x1h:=Hd x1
  clear hq1 hq1b hq3 x0 x1
  go_wp2
  go_loopw [3] (fun i wr=>∃k:Nat,k≤t.rows.length∧i=.int .i64 (k:Int)∧Hid (Below w2.heap.size w2 wr)∧Hid (∀j (hj:j<t.rows.length),j<k→rowB t.vars.length t.rows[j]=true)) (fun i _=>t.rows.length-(intOf i).toNat)
  case atStart=>exact⟨0,by omega,rfl,Hd (Below.refl _ _),Hd fun j _ h=>by omega⟩
  case round =>
   obtain⟨k,hk,rfl,hb,hall⟩:=hrel
   obtain⟨w5,rfl⟩:∃w5:World,w5=wr:=⟨_,rfl⟩
   have x0:=sB hb.out x0h.out
   have x1:=sB hb.out x1h.out
   by_cases hlt:k<t.rows.length
   ·have hki : (k : Int) < (t.rows.length : Int) := by omega
    have hk1:=Hd (show k+1≤t.rows.length from hlt)
    have hb12:=hb2h.out.trans (hb.out.mono hb2h.out.size)
    obtain⟨b,off,a,c,rfl,hbl,hcell,hla⟩:=hrc.out k hlt
    replace hcell:=sB hb12 hcell
    replace hla:=Hd (hla.stay hb12)
    have hno:Hid (rowB t.vars.length t.rows[k]=false→q=false):=Hd fun h=>hq2.out k hlt h
    have hall2:Hid (rowB t.vars.length t.rows[k]=true→∀j (hj:j<t.rows.length),j<k+1→rowB t.vars.length t.rows[j]=true):=Hd fun h j hj hjk=>by
     by_cases he:j=k
     ·subst he;exact h
     ·exact hall.out j hj (by omega)
    clear hall hb12 hbl
    generalize t.rows[k]=r at *
    have hdw:Below w5.heap.size w5 w5.drew:=below_drewN (Below.refl _ _) 1
    have hbd:=hb.out.trans (hdw.mono hb.out.size)
    have hbd2:=hb2h.out.trans (hbd.mono hb2h.out.size)
    have hB5:=Hd (hal2.out.trans (hbd2.mono hal2.out.size))
    have z0:=sB hdw x0
    have z1:=sB hdw x1
    have z2:=sB hdw hcell
    have hla2:=Hd (hla.out.stay hdw)
    replace hbd:=Hd hbd
    have hrl:((r.length:Int) != (t.vars.length:Int))=!decide (r.length=t.vars.length):=by
     by_cases h:r.length=t.vars.length
     ·rw[h];simp
     ·rw[decide_eq_false h];simp;omega
    obtain⟨ql,hql⟩:∃ql,(!decide (r.length=t.vars.length))=ql:=⟨_,rfl⟩
    rw[hql]at hrl
    replace hql:=Hd hql
    clear hb hla hbd2
    go_upto_region 6 with fail
    refine wp_region_held_drew (S:=fun V=>Below w5.heap.size w5 V) (by kernel_rfl) hdw (fun hS=>?_)
    generalize w5.drew=V0 at *
    refine tkS [0,1,2,3,4,5,6,7,8,9] ?_
    iterate 10
     refine tkC ?_ rfl (fun w' hS=>?_) hS ?_
     rotate_left
     ·
      have p0:=sB hS x0;have p1:=sB hS x1;have p2:=sB hS hcell
      go_simp
      try with_reducible rfl
    refine wpAnyH_done (by kernel_rfl) ?_ _
    clear hS x0 x1 hcell
    cases ql with
    |true=>
     have hne:r.length≠t.vars.length:=of_decide_eq_false (by have:=hql.out;simpa using this)
     have hz:=hno.out (by unfold rowB;rw[decide_eq_false hne];rfl)
     clear hne
     replace hz:=Hd hz
     go_wp2
     go_ret
     exact⟨ret_bool hz.out.symm,hB5.out⟩
    | false =>
     have hle:r.length=t.vars.length:=of_decide_eq_true (by have:=hql.out;simpa using this)
     have hle2:=Hd hle
     have z0h:=Hd z0
     have z1h:=Hd z1
     have z2h:=Hd z2
     clear hle z0 z1 z2
     go_wp2
     go_loopw [4] (fun j wr=>∃m:Nat,m≤t.vars.length∧j=.int .i64 (m:Int)∧Hid (Below V0.heap.size V0 wr)∧Hid (∀j (hj:j<r.length),j<m→mayV r[j]=true)) (fun j _=>t.vars.length-(intOf j).toNat)
     case atStart=>exact⟨0,by omega,rfl,Hd (Below.refl _ _),Hd fun j _ h=>by omega⟩
     case round=>
      obtain⟨m,hm,rfl,hb,hin⟩:=hrel
      have z0:=sB hb.out z0h.out
      have z1:=sB hb.out z1h.out
      have z2:=sB hb.out z2h.out
      by_cases hlm:m<t.vars.length
      ·have hmi:(m:Int)<(t.vars.length:Int):=by omega
       have hmr:m<r.length:=by rw[hle2.out];exact hlm
       have hmri:(m:Int)<(r.length:Int):=by omega
       have hm1:=Hd (show m+1≤t.vars.length from hlm)
       obtain⟨g4,o4,k4,bo4,n4,t4,x4,l4,aoE,capE,rfl,he,hr,hok,hsl⟩:=la_at (hla2.out.stay hb.out) m hmr
       obtain⟨y0,y1,y2,y3,y4,y5⟩:=hr.six
       have hcl:=val.rMay_call N hN wr k4 bo4 n4 t4 x4 _ l4 hsl hok.2.2.1 hok.2.2.2
       unfold agg6 at hcl
       have hok1:Hid (mayV (.mk k4 bo4 n4 t4 x4 l4)=true→∀j (hj:j<r.length),j<m+1→mayV r[j]=true):=Hd fun h j hj hjm=>by
        by_cases hje:j=m
        ·subst hje
         have h2:r[j]=.mk k4 bo4 n4 t4 x4 l4:=he
         rw[h2];exact h
        ·exact hin.out j hj (by omega)
       have hno1:Hid (mayV (.mk k4 bo4 n4 t4 x4 l4)=false→q=false):=Hd fun h=>hno.out (by
        unfold rowB
        rw[Bool.and_eq_false_iff]
        refine .inr ?_
        rw[List.all_eq_false]
        exact⟨r[m],List.getElem_mem hmr,by rw[he,h];decide⟩)
       generalize mayV (.mk k4 bo4 n4 t4 x4 l4)=c at *
       replace hcl:=Hd hcl
       clear hin he hr hok hsl
       go_wp2_with fail
       refine hcl.out.mono ?_
       rintro e w7 ⟨rfl,hb7⟩
       have hb8:=Hd (hb.out.trans (hb7.mono hb.out.size))
       clear hb7 hcl y0 y1 y2 y3 y4 y5 z0 z1 z2 hb
       cases c with
       |false=>
        have hz:=hno1.out rfl
        have hfin:=Hd (hB5.out.trans (hb8.out.mono hB5.out.size))
        replace hz:=Hd hz
        go_wp2
        go_ret
        exact⟨ret_bool hz.out.symm,hfin.out⟩
       |true=>
        have hin2:=Hd (hok1.out rfl)
        clear hok1 hno1
        go_wp2
        go_roundw
        case rel=>exact⟨m+1,hm1.out,by go_num,hb8,hin2⟩
        case measure=>have:=hm1.out;simp[intOf];omega
      ·have hmi:¬(m:Int)<(t.vars.length:Int):=by omega
       obtain rfl:m=t.vars.length:=by omega
       have hall3:=Hd (hall2.out (by
        unfold rowB
        rw[decide_eq_true hle2.out,Bool.true_and,List.all_eq_true]
        intro v hv
        obtain⟨j,hj,rfl⟩:=List.getElem_of_mem hv
        exact hin.out j hj (by rw[←hle2.out];exact hj)))
       have hbk:=Hd (hbd.out.trans (hb.out.mono hbd.out.size))
       clear hin
       go_wp2
       go_roundw
       case rel=>exact⟨k+1,hk1.out,by go_num,hbk,hall3⟩
       case measure=>have:=hk1.out;simp[intOf];omega
   ·have hki:¬(k:Int)<(t.rows.length:Int):=by omega
    obtain rfl:k=t.rows.length:=by omega
    have hz:=hq4.out (fun j hj=>hall.out j hj hj)
    have hfin:=Hd (hB2.out.trans (hb.out.mono hB2.out.size))
    clear hall
    replace hz:=Hd hz
    go_wp2
    go_ret
    exact⟨ret_bool hz.out.symm,hfin.out⟩
end Go.Proofs.YtmpldjbdhbapbaaGreatDoor.tab
