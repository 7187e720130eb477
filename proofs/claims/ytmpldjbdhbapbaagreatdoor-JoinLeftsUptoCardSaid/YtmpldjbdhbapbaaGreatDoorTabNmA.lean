/- Texts TabClone, TabNames, TabTog, TabTog2, one behind the other. -/
import Derived.Test.YtmpldjbdhbapbaaGreatDoorTabIA
import Derived.Lib.SliceRun
import Derived.Lib.SmallJoins
set_option linter.unusedSimpArgs false
set_option linter.unusedVariables false
set_option maxRecDepth 100000
set_option maxHeartbeats 4000000
namespace Go.Proofs.YtmpldjbdhbapbaaGreatDoor.tab
open Go.ChangeShapes Go.WideShapes Go.ChangeAt Go.RowKit kit dec val
open hyp (RowA TextsA CellsStay stay_of_below textsV textsV_length own_row OW)
theorem infoStr:(Tryz.prog.info? 9).map (fun i=>(i.zero,i.size,i.bytes))=some (some (.string ByteArray.empty),1,16):=by kernel_rfl
theorem infoInt:(Tryz.prog.info? 3).map (fun i=>(i.zero,i.size,i.bytes))=some (some (.int .i64 0),1,8):=by kernel_rfl
theorem cloneT_any(w:World)(u:Value)(L:List ByteArray)(hl:L.length≤1048576)(hR:TextsA w w.heap.size u L):
 Calls Tryz.prog 36 #[u] w fun e w'=>∃v,e=.returned v∧OW 9 w w.heap.size v (textsV L) w':=by
 obtain⟨i0,hi,hz0,hz1,hz2⟩:=info_parts infoStr
 have q22:∀(w:World) (a:Option Addr) (n c n' c':Nat),(binOp .eql 22 (.slice a n c) (.slice none n' c')).run Tryz.prog w=.ok (.bool a.isNone) w:=fun w a n c n' c'=>Lib.run_eql_slice_nil w _ _ a n c n' c' Tryz.underlying22
 obtain⟨ao,cap,rfl,-⟩:=hR.form
 by_cases h0:L=[]
 ·subst h0
  cases ao with
  |none=>
   clear hR
   go_enter Tryz.func36,Tryz.ntmps36
   go_wp2
   go_ret
   exact⟨_,rfl,hyp.OW.start _ _ _⟩
  |some a=>
   clear hR
   go_enter Tryz.func36,Tryz.ntmps36
   go_wp2_with (at_builtin;refine wpList_append_own _ rfl _ _ 22 rfl w.heap.size 9 i0 (.string ByteArray.empty) 1 16 Tryz.underlying22 hi hz0 hz1 hz2 rfl (by decide) _ _ _ rfl (World.ownsRow_made w #[] 0 (Nat.le_refl _) (Nat.zero_le _) rfl) a 0 cap [] rfl rfl ?e2 ?e3 ?e4 ?e5 ?e6 ?_)
   case e2=>intro j u hj;simp at hj
   case e3=>intro u hu;cases hu
   case e4=>simp[maxLen]
   case e5=>omega
   case e6=>simp
   intro v' w1 hown hgrow hnil
   go_wp2
   go_ret
   have hbl:Below w.heap.size w w1:=((Below.refl _ w).alloc (Nat.le_refl _) _).grown hgrow (by simp) (by intro k hk;simp[Value.ownBlock]at hk;omega)
   exact⟨v',rfl,hbl,by simpa[textsV]using hown⟩
 ·have hpos:=List.length_pos_iff.2 h0
  rcases hR.row with⟨a,c,hv,hnil⟩|⟨b,off,c,hv,-,hcap,hb,hc⟩
  ·simp[textsV]at hnil;exact absurd hnil h0
  obtain⟨rfl,rfl⟩:ao=some ⟨b,off,none⟩∧cap=c:=by
   injection hv with h1 h2 h3
   exact⟨h1,h3⟩
  have A:Hid (∀j (h:j<(textsV L).length),w.cell? ⟨b,off+j,none⟩=some (textsV L)[j]):=hc
  clear hc hv hR
  have hml:(textsV L).length=L.length:=textsV_length L
  go_enter Tryz.func36,Tryz.ntmps36
  go_wp2_with (at_builtin;refine wpList_append_own _ rfl _ _ 22 rfl w.heap.size 9 i0 (.string ByteArray.empty) 1 16 Tryz.underlying22 hi hz0 hz1 hz2 rfl (by decide) _ _ _ rfl (World.ownsRow_made w #[] 0 (Nat.le_refl _) (Nat.zero_le _) rfl) ⟨b,off,none⟩ L.length cap (textsV L) rfl ?e1 ?e2 ?e3 ?e4 ?e5 ?e6 ?_)
  case e1=>rw[hml,Nat.mul_one]
  case e2=>
   intro j u hj
   have hj2:=(List.getElem?_eq_some_iff.1 hj).1
   rw[Addr.add_lit]
   refine Lib.cell?_alloc_some _ ?_
   rw[A.out j hj2]
   rw[List.getElem?_eq_getElem hj2]at hj
   exact hj
  case e3=>intro u hu;obtain⟨x,_,rfl⟩:=List.mem_map.1 hu;rfl
  case e4=>unfold maxLen;omega
  case e5=>omega
  case e6=>simp
  intro v' w1 hown hgrow hnil
  go_wp2
  go_ret
  have hbl:Below w.heap.size w w1:=((Below.refl _ w).alloc (Nat.le_refl _) _).grown hgrow (by simp) (by intro k hk;simp[Value.ownBlock]at hk;omega)
  exact⟨v',rfl,hbl,by rw[hml];simpa using hown⟩
open hyp (RowA TextsA CellsStay stay_of_below textsV textsV_length own_row)
theorem part_texts{w:World}{B:Nat}{a:Option Addr}{c:Nat}{l:List ByteArray}(h:TextsA w B (.slice a l.length c) l){m:Nat}(hm:m≤l.length):TextsA w B (.slice a m c) (l.take m):=by
 refine⟨?_,fun s hs=>h.size s (List.mem_of_mem_take hs)⟩
 have hlen:(textsV (l.take m)).length=m:=by rw[textsV_length,List.length_take];omega
 rcases h.row with⟨ao,cap,hv,hl⟩|⟨b,off,cap,hv,h0,hc,hB,hj⟩
 ·have:l=[]:=by cases l with|nil=>rfl|cons a l=>simp[textsV]at hl
  subst this
  obtain rfl:m=0:=by simpa using hm
  exact .inl ⟨a,c,rfl,rfl⟩
 ·injection hv with h1 h2 h3
  subst h1 h3
  by_cases hm0:m=0
  ·subst hm0
   exact .inl ⟨_,c,rfl,by simp[textsV]⟩
  ·rw[textsV_length]at hc
   refine .inr ⟨b,off,c,by rw[hlen],by omega,by omega,hB,fun j h=>?_⟩
   have h5:=hj j (by rw[textsV_length];omega)
   rw[h5]
   simp[textsV]
theorem contains_any(w:World)(ao:Option Addr)(cap:Nat)(ns:List ByteArray)(s:ByteArray)(hn:ns.length≤1048576)
 (hc:∀j (hj:j<ns.length),∃b off,ao=some ⟨b,off,none⟩∧b<w.heap.size∧w.cell? ⟨b,off+j,none⟩=some (.string ns[j])):
 Calls Tryz.prog 61 #[.slice ao ns.length cap,.string s] w fun e w'=>e=.returned (.bool (decide (s∈ns)))∧w'=w:=by
 have hi:=index_any w ao cap ns s hn hc
 have hneg:=idxI_neg ns s
 generalize idxI ns s=i at *
 replace hi:=Hd hi
 clear hc
 go_enter Tryz.func61,Tryz.ntmps61
 go_wp2_with fail
 refine hi.out.mono ?_
 rintro e w1 ⟨rfl,rfl⟩
 cases hm:decide (s∈ns) with
 | true =>
  rw[hm]at hneg
  have h0:(0:Int)≤i:=by
   have:¬i<0:=by simpa using hneg
   omega
  replace hm:=Hd hm
  clear hneg
  go_wp2
  go_ret
  exact⟨ret_bool (by first|exact hm.out.symm|(rw[decide_eq_false (show ¬(0:Int)≤i by omega)];exact hm.out.symm)),rfl⟩
 | false =>
  rw[hm]at hneg
  have h0:¬(0:Int)≤i:=by
   have:i<0:=by simpa using hneg
   omega
  replace hm:=Hd hm
  clear hneg
  go_wp2
  go_ret
  exact⟨ret_bool (by first|exact hm.out.symm|(rw[decide_eq_false (show ¬(0:Int)≤i by omega)];exact hm.out.symm)),rfl⟩
theorem may_name(v:ByteArray):mayV (.mk 9 false 0 v ⟨#[]⟩ [])=val.nameB v:=by
 show chkW (fun l=>l.all (chkV 59)) (.mk 9 false 0 v ⟨#[]⟩ [])=_
 unfold chkW
 simp[emp]
 intro _
 rfl
theorem nodup_snoc{l:List ByteArray}(h:l.Nodup){x:ByteArray}(hx:x∉l):(l++[x]).Nodup:=by
 rw[List.nodup_append]
 refine⟨h,by simp,fun a ha b hb=>?_⟩
 have:b=x:=by simpa using hb
 rw[this]
 rintro rfl
 exact hx ha
theorem texts_cap{w:World}{B:Nat}{a:Option Addr}{n c:Nat}{l:List ByteArray}(h:TextsA w B (.slice a n c) l):l.length≤c:=by
 rcases h.row with⟨ao,cap,hv,hl⟩|⟨b,off,cap,hv,h0,hc,hB,hj⟩
 ·have:=congrArg List.length hl
  rw[textsV_length,List.length_nil]at this
  omega
 ·injection hv with h1 h2 h3
  rw[textsV_length]at hc
  omega
theorem texts_cells{w:World}{a:Option Addr}{n c:Nat}{l:List ByteArray}(h:TextsA w w.heap.size (.slice a n c) l):n=l.length∧∀j (hj:j<l.length),∃b off,a=some ⟨b,off,none⟩∧b<w.heap.size∧w.cell? ⟨b,off+j,none⟩=some (.string l[j]):=by
 obtain⟨ao,cap,hv,hc⟩:=h.form
 injection hv with h1 h2 h3
 subst h1
 exact⟨h2,hc⟩
theorem names_any(w:World)(hE:Env w)(vv:Value)(l:List ByteArray)(h:TextsA w w.heap.size vv l)(hl:l.length≤1048576):
 Calls Tryz.prog 35 #[vv] w fun e w'=>e=.returned (.bool (namesB l))∧Below w.heap.size w w':=by
 obtain⟨a,c,rfl,hc⟩:=h.form
 have hcap:=texts_cap h
 obtain⟨q,hq⟩:∃q,namesB l=q:=⟨_,rfl⟩
 rw[hq]
 have hq1:Hid (64<l.length→q=false):=Hd fun h=>by rw[←hq];unfold namesB;rw[decide_eq_false (by omega)];rfl
 have hq2:Hid (∀j (hj:j<l.length),val.nameB l[j]=false→q=false):=Hd fun j hj h=>by
  rw[←hq]
  apply Bool.eq_false_iff.2
  intro h2
  rw[(names_parts h2).2.1 _ (List.getElem_mem hj)]at h
  cases h
 have hq3:Hid (∀j (hj:j<l.length),l[j]∈l.take j→q=false):=Hd fun j hj h=>by
  rw[←hq]
  apply Bool.eq_false_iff.2
  intro h2
  have h3:=(names_parts h2).2.2
  obtain⟨i,hi,he⟩:=List.getElem_of_mem h
  rw[List.getElem_take]at he
  rw[List.length_take]at hi
  have:=(List.getElem_inj (h₀:=by omega) (h₁:=hj) h3).1 he
  omega
 have hq4:Hid (l.length≤64→(∀j (hj:j<l.length),val.nameB l[j]=true)→l.Nodup→q=true):=Hd fun h1 h2 h3=>by
  rw[←hq]
  unfold namesB
  rw[decide_eq_true h1,decide_eq_true h3]
  have:l.all val.nameB=true:=by
   rw[List.all_eq_true]
   intro x hx
   obtain⟨j,hj,rfl⟩:=List.getElem_of_mem hx
   exact h2 j hj
  rw[this]
  rfl
 have hA:=Hd h
 replace hc:=Hd hc
 replace hE:=Hd hE
 clear h hq
 go_enter Tryz.func35,Tryz.ntmps35
 go_wp2
 go_loopw [7] (fun i wr=>∃k:Nat,k≤l.length∧i=.int .i64 (k:Int)∧k≤64∧Hid (Below w.heap.size w wr)∧Hid (∀j (hj:j<l.length),j<k→val.nameB l[j]=true)∧Hid ((l.take k).Nodup)) (fun i _=>l.length-(intOf i).toNat)
 case atStart=>exact⟨0,by omega,rfl,by omega,Hd (Below.refl _ _),Hd fun j _ h=>by omega,Hd (by simp)⟩
 case round =>
  obtain⟨k,hk,rfl,hk64,hb,hnm,hnd⟩:=hrel
  by_cases hlt:k<l.length
  ·have hki:(k:Int)<(l.length:Int):=by omega
   have hk1:=Hd (show k+1≤l.length from hlt)
   obtain⟨b,off,rfl,hbl,hcell⟩:=hc.out k hlt
   replace hcell:=sB hb.out hcell
   by_cases h64:64≤k
   ·have h64i:(64:Int)≤(k:Int):=by omega
    have hqf:=Hd (hq1.out (by omega))
    clear hnm hnd
    generalize l[k]=v at *
    go_wp2
    go_ret
    exact⟨ret_bool hqf.out.symm,hb.out⟩
   ·have h64i:¬(64:Int)≤(k:Int):=by omega
    have hk65:k+1≤64:=by omega
    have hkc:(k:Int)≤(c:Int):=by omega
    have hkc2:k≤c:=by omega
    have hsz:=hA.out.size _ (List.getElem_mem hlt)
    have hck:=val.check_any 9223372036854775807 (Nat.le_refl _) wr (hE.out.below hb.out) 9 false 0 l[k] ⟨#[]⟩ (.slice none 0 0) [] (.mk none 0 [] (Nat.zero_le _) (fun j hj=>by simp at hj)) (by unfold maxLen at hsz;omega) (Nat.zero_le _)
    rw[may_name]at hck
    unfold agg6 at hck
    have hqn:=Hd (hq2.out k hlt)
    have hqm:=Hd (hq3.out k hlt)
    have hnm2:Hid (val.nameB l[k]=true→∀j (hj:j<l.length),j<k+1→val.nameB l[j]=true):=Hd fun h j hj hjk=>by
     by_cases he:j=k
     ·subst he;exact h
     ·exact hnm.out j hj (by omega)
    have hnd2:Hid (l[k]∉l.take k→(l.take (k+1)).Nodup):=Hd fun h=>by
     rw[List.take_succ_eq_append_getElem hlt]
     exact nodup_snoc hnd.out h
    have hct:=fun V (h:Below w.heap.size w V)=>by
     have hp:=part_texts ((hA.out.stay (stay_of_below h)).mono h.size) hk
     have h2:=texts_cells hp
     have h3:=contains_any V (some ⟨b,off,none⟩) c (l.take k) l[k] (by rw[List.length_take];omega) h2.2
     rw[←h2.1]at h3
     exact h3
    replace hct:=Hd hct
    replace hck:=Hd hck
    clear hnm hnd hsz
    generalize l[k]=v at *
    cases hv:val.nameB v with
    |false=>
     rw[hv]at hck
     have hqf:=Hd (hqn.out hv)
     clear hct hqm hnm2 hnd2 hqn
     go_wp2_with fail
     refine hck.out.mono ?_
     rintro e w1 ⟨rfl,hb1⟩
     have hb2:=Hd (hb.out.trans (hb1.mono hb.out.size))
     clear hck hb1
     go_wp2
     go_ret
     exact⟨ret_bool hqf.out.symm,hb2.out⟩
    | true =>
     rw[hv]at hck
     have hnm3:=Hd (hnm2.out hv)
     clear hqn hnm2
     go_wp2_with fail
     refine hck.out.mono ?_
     rintro e w1 ⟨rfl,hb1⟩
     have hb2:=Hd (hb.out.trans (hb1.mono hb.out.size))
     have hc2:=Hd (hct.out w1 hb2.out)
     clear hck hb1 hct hcell
     cases hm:decide (v∈l.take k) with
     |true=>
      rw[hm]at hc2
      have hqf:=Hd (hqm.out (of_decide_eq_true hm))
      go_wp2_with fail
      refine hc2.out.mono ?_
      rintro e w2 ⟨rfl,rfl⟩
      go_wp2
      go_ret
      exact⟨ret_bool hqf.out.symm,hb2.out⟩
     |false=>
      rw[hm]at hc2
      have hnd3:=Hd (hnd2.out (of_decide_eq_false hm))
      clear hnd2 hqm
      go_wp2_with fail
      refine hc2.out.mono ?_
      rintro e w2 ⟨rfl,rfl⟩
      go_wp2
      go_roundw
      case rel=>exact⟨k+1,hk1.out,by go_num,hk65,hb2,hnm3,hnd3⟩
      case measure=>have:=hk1.out;simp[intOf];omega
  ·have hki:¬(k:Int)<(l.length:Int):=by omega
   obtain rfl:k=l.length:=by omega
   have h64:(l.length:Int)≤64:=by omega
   have hqt:=Hd (hq4.out hk64 (fun j hj=>hnm.out j hj hj) (by have:=hnd.out;rw[List.take_length]at this;exact this))
   go_wp2
   go_ret
   exact⟨ret_bool hqt.out.symm,hb.out⟩
def numsN(l:List Nat):List Value:=l.map fun(n:Nat)=>.int .i64 (n:Int)
@[simp] theorem numsN_length(l:List Nat):(numsN l).length=l.length:=by simp[numsN]
def atN(a b:List ByteArray):List Nat:=b.map fun v=>(b.foldl addN a).idxOf v
theorem idx_addN{ns:List ByteArray}(u:ByteArray){v:ByteArray}(h:v∈ns):(addN ns u).idxOf v=ns.idxOf v:=by
 unfold addN
 split
 ·rfl
 ·rw[List.idxOf_append,if_pos h]
theorem idx_fold{v:ByteArray}:∀(l ns:List ByteArray),v∈ns→(l.foldl addN ns).idxOf v=ns.idxOf v
 |[],ns,h=>rfl
 |u::l,ns,h=>by rw[List.foldl_cons,idx_fold l (addN ns u) (mem_addN.2 (.inl h)),idx_addN u h]
theorem idx_new{ns:List ByteArray}{v:ByteArray}(h:v∉ns):(addN ns v).idxOf v=ns.length:=by
 unfold addN
 rw[if_neg h,List.idxOf_append,if_neg h]
 simp
theorem own_ne{w:World}{B:Nat}{e t:TypeId}{s:Nat}{v:Value}{n p:Nat}{xs:List Value}{cs:Array Value}(h:w.ownsRow B e s v n xs)(hb:Blk w p cs t)(hne:e≠t):v.ownBlock≠some p:=by
 intro e1
 rcases h.2 with⟨rfl,_⟩|⟨g,cap,cur,rfl,_,hh,_⟩
 ·cases e1
 ·simp only[Value.ownBlock,Option.some.injEq]at e1
  subst e1
  unfold Blk at hb
  rw[hb]at hh
  cases hh
  exact hne rfl
theorem own_two{w:World}{B B':Nat}{e e':TypeId}{s s':Nat}{v v':Value}{n n':Nat}{xs xs':List Value}(h:w.ownsRow B e s v n xs)(h':w.ownsRow B' e' s' v' n' xs')(hne:e≠e'):v.ownBlock=none∨v.ownBlock≠v'.ownBlock:=by
 cases hv:v.ownBlock with
 |none=>exact .inl rfl
 | some g =>
  refine .inr fun e1=>?_
  rcases h.2 with⟨rfl,_⟩|⟨g1,cap,cur,rfl,_,hh,_⟩
  ·cases hv
  ·rcases h'.2 with⟨rfl,_⟩|⟨g2,cap2,cur2,rfl,_,hh2,_⟩
   ·cases e1
   ·simp only[Value.ownBlock,Option.some.injEq]at hv e1
    subst hv
    subst e1
    rw[hh]at hh2
    cases hh2
    exact hne rfl
theorem own_set{w:World}{B:Nat}{e t:TypeId}{s:Nat}{v:Value}{n p:Nat}{xs:List Value}{cs:Array Value}(h:w.ownsRow B e s v n xs)(hb:Blk w p cs t)(hne:e≠t)(i:Nat)(u:Value):(w.setCell ⟨p,i,none⟩ u).ownsRow B e s v n xs:=
 own_stay h fun g hg=>Below.heap_setCell w _ u g (fun e1=>own_ne h hb hne (by rw[hg,e1]))
structure TG(w0 w:World)(pb:Nat)(vv va:Value)(ns:List ByteArray)(at_:List Nat):Prop where
 below:Below w0.heap.size w0 w
 b0:Blk w w0.heap.size #[.slice none 0 0,.slice none 0 0] 75
 b1:Blk w pb #[vv,va] 75
 names:w.ownsRow w0.heap.size 9 1 vv ns.length (textsV ns)
 places:w.ownsRow w0.heap.size 3 1 va at_.length (numsN at_)
 lt:w0.heap.size<pb
theorem TG.alloc{w0 w:World}{pb:Nat}{vv va:Value}{ns:List ByteArray}{at_:List Nat}(h:TG w0 w pb vv va ns at_)(o:Obj):TG w0 (w.alloc o) pb vv va ns at_:=
 ⟨h.below.alloc h.below.size o,h.b0.alloc o,h.b1.alloc o,h.names.alloc o,h.places.alloc o,h.lt⟩
theorem TG.name{w0 w w':World}{pb:Nat}{vv va vv':Value}{ns:List ByteArray}{at_:List Nat}(h:TG w0 w pb vv va ns at_)(x:ByteArray)(h1:w'.ownsRow w0.heap.size 9 1 vv' (ns.length+1) (textsV ns++[.string x]))(hg:w.grownBy w' vv.ownBlock):
 TG w0 (w'.setCell ⟨pb,0,none⟩ vv') pb vv' va (ns++[x]) at_:=by
 have e0:Blk w' w0.heap.size _ _:=(hg.block _ h.b0.lt (fun e=>own_ne h.names h.b0 (by decide) e.symm)).trans h.b0
 have e1:Blk w' pb #[vv,va] 75:=(hg.block _ h.b1.lt (fun e=>own_ne h.names h.b1 (by decide) e.symm)).trans h.b1
 have e2:=h.places.kept hg (own_two h.places h.names (by decide))
 have hb:=h.below.grown hg h.below.size (fun k hk=>(h.names.lt k hk).1)
 refine⟨hb.setCell (p:=⟨pb,0,none⟩) (Nat.le_of_lt h.lt) vv',e0.set_other ⟨pb,0,none⟩ (by have:=h.lt;simp;omega) vv',e1.set 0 vv',?_,own_set e2 e1 (by decide) 0 vv',h.lt⟩
 rw[List.length_append]
 have:=own_set h1 e1 (by decide) 0 vv'
 simpa[textsV]using this
theorem TG.place{w0 w w':World}{pb:Nat}{vv va va':Value}{ns:List ByteArray}{at_:List Nat}(h:TG w0 w pb vv va ns at_)(x:Nat)(h1:w'.ownsRow w0.heap.size 3 1 va' (at_.length+1) (numsN at_++[.int .i64 (x:Int)]))(hg:w.grownBy w' va.ownBlock):
 TG w0 (w'.setCell ⟨pb,1,none⟩ va') pb vv va' ns (at_++[x]):=by
 have e0:Blk w' w0.heap.size _ _:=(hg.block _ h.b0.lt (fun e=>own_ne h.places h.b0 (by decide) e.symm)).trans h.b0
 have e1:Blk w' pb #[vv,va] 75:=(hg.block _ h.b1.lt (fun e=>own_ne h.places h.b1 (by decide) e.symm)).trans h.b1
 have e2:=h.names.kept hg (own_two h.names h.places (by decide))
 have hb:=h.below.grown hg h.below.size (fun k hk=>(h.places.lt k hk).1)
 refine⟨hb.setCell (p:=⟨pb,1,none⟩) (Nat.le_of_lt h.lt) va',e0.set_other ⟨pb,1,none⟩ (by have:=h.lt;simp;omega) va',e1.set 1 va',own_set e2 e1 (by decide) 1 va',?_,h.lt⟩
 rw[List.length_append]
 have:=own_set h1 e1 (by decide) 1 va'
 simpa[numsN]using this
theorem infoBoth:(Tryz.prog.info? 75).map (·.size)=some 2:=by kernel_rfl
def BothO(w0 w:World)(v:Value)(a b:List ByteArray):Prop:=
 ∃vv va,v=.agg #[vv,va]∧Below w0.heap.size w0 w∧w.ownsRow w0.heap.size 9 1 vv (b.foldl addN a).length (textsV (b.foldl addN a))∧w.ownsRow w0.heap.size 3 1 va (atN a b).length (numsN (atN a b))
theorem fold_take{b a:List ByteArray}{k:Nat}(h:k<b.length):(b.take (k+1)).foldl addN a=addN ((b.take k).foldl addN a) b[k]:=by
 rw[List.take_succ_eq_append_getElem h,List.foldl_append]
 rfl
theorem fold_rest(b a:List ByteArray)(k:Nat):b.foldl addN a=(b.drop k).foldl addN ((b.take k).foldl addN a):=by
 rw[←List.foldl_append,List.take_append_drop]
theorem at_take{b a:List ByteArray}{k:Nat}(h:k<b.length):(atN a b).take (k+1)=(atN a b).take k++[(addN ((b.take k).foldl addN a) b[k]).idxOf b[k]]:=by
 unfold atN
 rw[List.take_succ_eq_append_getElem (by rw[List.length_map];exact h),List.getElem_map]
 congr 2
 rw[fold_rest b a (k+1),idx_fold _ _ (by rw[fold_take h];exact mem_addN.2 (.inr rfl)),fold_take h]
theorem own_form4x{w:World}{B:Nat}{e:TypeId}{s:Nat}{v:Value}{n:Nat}{xs:List Value}(h:w.ownsRow B e s v n xs):∃a c,v=.slice a n c:=by
 rcases h.2 with⟨rfl,hn⟩|⟨g,cap,cur,rfl,_⟩
 ·exact⟨none,0,by rw[hn]⟩
 ·exact⟨_,cap,rfl⟩
theorem own_low4{w:World}{B B':Nat}{e:TypeId}{s:Nat}{v:Value}{n:Nat}{xs:List Value}(h:w.ownsRow B e s v n xs)(hB:B'≤B):w.ownsRow B' e s v n xs:=
 ⟨h.1,h.2.imp id fun⟨g,cap,cur,h1,h2,r⟩=>⟨g,cap,cur,h1,by omega,r⟩⟩
theorem own_texts{w:World}{B:Nat}{v:Value}{l:List ByteArray}(h:w.ownsRow B 9 1 v l.length (textsV l)):∃a c,v=.slice a l.length c∧∀j (hj:j<l.length),∃b off,a=some ⟨b,off,none⟩∧b<w.heap.size∧w.cell? ⟨b,off+j,none⟩=some (.string l[j]):=by
 have h2:RowA w w.heap.size v (textsV l):=own_row (by rw[textsV_length];exact h)
 obtain⟨a,c,hv,-,hc⟩:=h2.form
 rw[textsV_length]at hv
 refine⟨a,c,hv,fun j hj=>?_⟩
 obtain⟨b,off,e1,e2,e3⟩:=hc j (by rw[textsV_length];exact hj)
 exact⟨b,off,e1,e2,by rw[e3];unfold textsV;rw[List.getElem_map]⟩
theorem together_any(w:World)(u1 u2:Value)(a b:List ByteArray)(ha:TextsA w w.heap.size u1 a)(hb:TextsA w w.heap.size u2 b)(hal:a.length≤100000)(hbl:b.length≤100000):
 Calls Tryz.prog 32 #[u1,u2] w fun e w'=>∃v,e=.returned v∧BothO w w' v a b:=by
 obtain⟨i0,hi,hz0,hz1,hz2⟩:=info_parts infoStr
 obtain⟨i1,hi1,hy0,hy1,hy2⟩:=info_parts infoInt
 have hal0:Below w.heap.size w (w.alloc (.cells #[.slice none 0 0,.slice none 0 0] 75)):=(Below.refl _ _).alloc (Nat.le_refl _) _
 have hcl:=cloneT_any (w.alloc (.cells #[.slice none 0 0,.slice none 0 0] 75)) u1 a (by omega) (TextsA.below ha hal0)
 have hq0:=Blk.new w #[.slice none 0 0,.slice none 0 0] 75
 obtain⟨ac,cc,rfl,hbc⟩:=hb.form
 replace hi:=Hd hi
 replace hz0:=Hd hz0
 replace hz1:=Hd hz1
 replace hz2:=Hd hz2
 replace hi1:=Hd hi1
 replace hy0:=Hd hy0
 replace hy1:=Hd hy1
 replace hy2:=Hd hy2
 replace hbc:=Hd hbc
 replace hcl:=Hd hcl
 replace hal0:=Hd hal0
 replace hq0:=Hd hq0
 clear ha hb
 go_enter Tryz.func32,Tryz.ntmps32
 go_wp2_with fail
 refine hcl.out.mono ?_
 rintro e w2 ⟨v2,rfl,hW⟩
 have hb2:=hal0.out.trans (hW.below.mono hal0.out.size)
 have hs2:=hW.below.size
 rw[World.size_alloc]at hs2
 have hown:=hW.own
 rw[textsV_length,World.size_alloc]at hown
 have hTG:Hid (TG w (w2.alloc (.cells #[v2,.slice none 0 0] 75)) w2.heap.size v2 (.slice none 0 0) ((b.take 0).foldl addN a) ((atN a b).take 0)):=Hd (by
  have e0:Blk w2 w.heap.size _ _:=(hW.below.block _ (by rw[World.size_alloc];omega)).trans hq0.out
  have e1:w2.ownsRow w.heap.size 9 1 v2 a.length (textsV a):=own_low4 hown (Nat.le_succ _)
  exact⟨hb2.alloc hb2.size _,e0.alloc _,Blk.new _ _ _,e1.alloc _,by simpa[numsN]using World.ownsRow_nil _ _ _ _,by omega⟩)
 obtain⟨ax,cx,hvx,-⟩:=own_texts (by simpa using hown:w2.ownsRow (w.heap.size+1) 9 1 v2 a.length (textsV a))
 subst hvx
 clear hcl hW hb2 hown hq0 hal0 hs2
 go_wp2
 go_loopw [14] (fun i wr=>∃(k:Nat) (vv va:Value),k≤b.length∧i=.int .i64 (k:Int)∧Hid (TG w wr w2.heap.size vv va ((b.take k).foldl addN a) ((atN a b).take k))) (fun i _=>b.length-(intOf i).toNat)
 case atStart=>exact⟨0,_,_,by omega,rfl,hTG⟩
 case round =>
  clear hTG
  obtain⟨k,vv,va,hk,rfl,hT⟩:=hrel
  by_cases hlt:k<b.length
  ·have hki:(k:Int)<(b.length:Int):=by omega
   obtain⟨b1,off,rfl,hb1,hcell⟩:=hbc.out k hlt
   replace hcell:=sB hT.out.below hcell
   have hft:=fold_take (a:=a) hlt
   have hat:=at_take (a:=a) hlt
   have hnl:((b.take k).foldl addN a).length≤200000:=by
    have:=foldN_len (b.take k) a
    rw[List.length_take]at this
    omega
   have hal2:((atN a b).take k).length=k:=by
    unfold atN
    rw[List.length_take,List.length_map]
    omega
   obtain⟨an,cn,rfl,hnc⟩:=own_texts hT.out.names
   have hix:=index_any wr an cn _ b[k] (by omega) hnc
   have hneg:=idxI_neg ((b.take k).foldl addN a) b[k]
   have hin:b[k]∈(b.take k).foldl addN a→idxI ((b.take k).foldl addN a) b[k]=((((b.take k).foldl addN a).idxOf b[k]:Nat):Int):=fun h=>by unfold idxI;rw[if_pos h]
   have x0:=hT.out.b1.cell 0 rfl
   have x1:=hT.out.b1.cell 1 rfl
   have f0:=hT.out.b1.free 0
   have f1:=hT.out.b1.free 1
   generalize hF2:(b.take (k+1)).foldl addN a=F2 at *
   generalize hA2:(atN a b).take (k+1)=A2 at *
   replace hF2:=Hd hF2
   replace hA2:=Hd hA2
   generalize (b.take k).foldl addN a=F at *
   generalize (atN a b).take k=A at *
   generalize b[k]=x at *
   have hk1:=Hd (show k+1≤b.length from hlt)
   generalize idxI F x=ix at *
   replace hix:=Hd hix
   have hlen0:=hT.out.names
   have hat0:=hT.out.places
   rw[hal2]at hat0
   replace hal2:=Hd hal2
   have hszT:=hT.out.below.size
   clear hnc hb1
   by_cases hm:x∈F
   ·rw[decide_eq_true hm]at hneg
    have hge:¬ix<0:=by simpa using hneg
    have hix2:=hin hm
    have hadd:addN F x=F:=by unfold addN;rw[if_pos hm]
    rw[hadd]at hft hat
    obtain⟨n,hn⟩:∃n,F.idxOf x=n:=⟨_,rfl⟩
    rw[hn]at hix2 hat
    subst hix2
    have hmv:numsN A++[.int .i64 (n:Int)]=numsN A2:=by rw[hat];simp[numsN]
    replace hn:=Hd hn
    replace hm:=Hd hm
    replace hmv:=Hd hmv
    replace hat:=Hd hat
    replace hft:=Hd hft
    replace hadd:=Hd hadd
    clear hin hneg hlen0 f0
    go_wp2_with fail
    refine hix.out.mono ?_
    rintro e w4 ⟨rfl,rfl⟩
    obtain⟨aa,ca,hva⟩:∃aa ca,va=.slice aa k ca:=by
     rcases hat0.2 with⟨e1,e2⟩|⟨g,cap,cur,e1,_⟩
     ·exact⟨none,0,by rw[e1,e2]⟩
     ·exact⟨_,cap,e1⟩
    subst hva
    go_wp2_with (at_builtin;refine wpList_append_own _ rfl _ _ 52 rfl w.heap.size 3 i1 (.int .i64 0) 1 8 Tryz.underlying52 hi1.out hy0.out hy1.out hy2.out rfl (by decide) _ k (numsN A) rfl (hat0.alloc _) _ 1 _ [.int .i64 (n:Int)] rfl rfl (news_b _ _ _) ?qa ?qb ?qc ?qd ?qe)
    case qa=>simp[Value.oneCell']
    case qb=>simp only[maxLen];omega
    case qc=>omega
    case qd=>simp;omega
    case qe=>
     intro v' w5 h1 h2 _
     have hT5:=(hT.out.alloc (.cells #[.int .i64 (n:Int)] 3)).place n (by rw[hal2.out];exact h1) h2
     rw[←hat.out]at hT5
     obtain⟨a5,c5,rfl⟩:=own_form4x h1
     have hne0:=own_ne hat0 hT.out.b1 (by decide)
     have e1:Blk w5 w2.heap.size _ _:=(h2.block w2.heap.size (by rw[World.size_alloc];have:=hT.out.b1.lt;omega) (fun e=>hne0 e.symm)).trans (hT.out.b1.alloc (.cells #[.int .i64 (n:Int)] 3))
     have g1:=e1.cell 1 rfl
     have g2:=e1.free 1
     clear hne0 e1
     replace hT5:=Hd hT5
     clear h1 h2 hT hat0 x0 x1 f1
     go_wp2
     go_roundw
     case rel=>exact⟨k+1,_,_,hk1.out,by go_num,by rw[hF2.out,hA2.out,hft.out];exact hT5⟩
     case measure=>have:=hk1.out;simp[intOf];omega
   ·rw[decide_eq_false hm]at hneg
    have hge:ix<0:=by simpa using hneg
    have hadd:addN F x=F++[x]:=by unfold addN;rw[if_neg hm]
    have hidx:=idx_new hm
    rw[hidx]at hat
    rw[hadd]at hft
    obtain⟨n,hn⟩:∃n,F.length=n:=⟨_,rfl⟩
    rw[hn]at hat hnl hlen0
    replace hm:=Hd hm
    replace hat:=Hd hat
    replace hft:=Hd hft
    replace hadd:=Hd hadd
    replace hidx:=Hd hidx
    clear hin hneg
    obtain⟨aa,ca,hva⟩:=own_form4x hat0
    subst hva
    rw[hn]at hix x0
    have hn2:=hn
    replace hn:=Hd hn
    have hT':Hid (TG w wr w2.heap.size (.slice an n cn) (.slice aa k ca) F A):=by rw[←hn.out];exact hT
    clear hT hn2
    go_wp2_with fail
    refine hix.out.mono ?_
    rintro e w4 ⟨rfl,rfl⟩
    go_wp2_with (at_builtin;refine wpList_append_own _ rfl _ _ 22 rfl w.heap.size 9 i0 (.string ByteArray.empty) 1 16 Tryz.underlying22 hi.out hz0.out hz1.out hz2.out rfl (by decide) _ n (textsV F) rfl (hlen0.alloc _) _ 1 _ [.string x] rfl rfl (news_b _ _ _) ?ra ?rb ?rc ?rd ?re)
    case ra=>simp[Value.oneCell']
    case rb=>simp only[maxLen];omega
    case rc=>omega
    case rd=>simp;omega
    case re=>
     intro v' w5 h1 h2 _
     have hT5:=(hT'.out.alloc (.cells #[.string x] 9)).name x (by rw[hn.out];exact h1) h2
     obtain⟨a5,c5,rfl⟩:=own_form4x h1
     have hne0:=own_ne hlen0 hT'.out.b1 (by decide)
     have e1:Blk w5 w2.heap.size _ _:=(h2.block w2.heap.size (by rw[World.size_alloc];have:=hT'.out.b1.lt;omega) (fun e=>hne0 e.symm)).trans (hT'.out.b1.alloc (.cells #[.string x] 9))
     have g1:=e1.cell 0 rfl
     have g2:=e1.free 0
     have hat5:=hT5.places
     rw[hal2.out]at hat5
     have k1:=hT5.b1.cell 1 rfl
     have hsz5:=hT5.below.size
     have hszs:(w5.setCell ⟨w2.heap.size,0,none⟩ (.slice a5 (n+1) c5)).heap.size=w5.heap.size:=by simp[World.setCell]
     have hnw:=news_b (w5.setCell ⟨w2.heap.size,0,none⟩ (.slice a5 (n+1) c5)) (.int .i64 (n:Int)) 3
     rw[hszs]at hnw hsz5
     replace hszs:=Hd hszs
     replace hT5:=Hd hT5
     clear h1 h2 hT' hat0 x0 x1 f0 f1 hne0 e1 hlen0
     go_wp2_with (at_builtin;refine wpList_append_own _ rfl _ _ 52 rfl w.heap.size 3 i1 (.int .i64 0) 1 8 Tryz.underlying52 hi1.out hy0.out hy1.out hy2.out rfl (by decide) _ k (numsN A) rfl (hat5.alloc _) _ 1 _ [.int .i64 (n:Int)] rfl rfl hnw ?sa ?sb ?sc ?sd ?se)
     case sa=>simp[Value.oneCell']
     case sb=>simp only[maxLen];omega
     case sc=>omega
     case sd=>simp;omega
     case se=>
      intro v8 w8 h1 h2 _
      have hT8:=(hT5.out.alloc (.cells #[.int .i64 (n:Int)] 3)).place n (by rw[hal2.out];exact h1) h2
      rw[←hat.out]at hT8
      obtain⟨a8,c8,rfl⟩:=own_form4x h1
      have hne0:=own_ne hat5 hT5.out.b1 (by decide)
      have e1:Blk w8 w2.heap.size _ _:=(h2.block w2.heap.size (by rw[World.size_alloc];have:=hT5.out.b1.lt;omega) (fun e=>hne0 e.symm)).trans (hT5.out.b1.alloc (.cells #[.int .i64 (n:Int)] 3))
      have g1:=e1.cell 1 rfl
      have g2:=e1.free 1
      replace hT8:=Hd hT8
      clear h1 h2 hT5 hat5 k1 hne0 e1
      go_wp2
      go_roundw
      case rel=>exact⟨k+1,_,_,hk1.out,by go_num,by rw[hF2.out,hA2.out,hft.out];exact hT8⟩
      case measure=>have:=hk1.out;simp[intOf];omega
  ·have hki:¬(k:Int)<(b.length:Int):=by omega
   obtain rfl:k=b.length:=by omega
   have hal3:(atN a b).take b.length=atN a b:=List.take_of_length_le (by unfold atN;rw[List.length_map];exact Nat.le_refl _)
   rw[List.take_length,hal3]at hT
   obtain⟨an,cn,rfl⟩:=own_form4x hT.out.names
   obtain⟨aa,ca,rfl⟩:=own_form4x hT.out.places
   have x0:=hT.out.b1.cell 0 rfl
   have x1:=hT.out.b1.cell 1 rfl
   have y0:=hT.out.b0.cell 0 rfl
   have y1:=hT.out.b0.cell 1 rfl
   have f0:=hT.out.b0.free
   clear hal3
   go_wp2
   have q0:=hT.out.b0.set 0 (.slice an (b.foldl addN a).length cn)
   have hfin:=q0.set 1 (.slice aa (atN a b).length ca)
   have o1:=own_set (own_set hT.out.names hT.out.b0 (by decide) 0 (.slice an (b.foldl addN a).length cn)) q0 (by decide) 1 (.slice aa (atN a b).length ca)
   have o2:=own_set (own_set hT.out.places hT.out.b0 (by decide) 0 (.slice an (b.foldl addN a).length cn)) q0 (by decide) 1 (.slice aa (atN a b).length ca)
   have hbf:=(hT.out.below.setCell (p:=⟨w.heap.size,0,none⟩) (Nat.le_refl _) (.slice an (b.foldl addN a).length cn)).setCell (p:=⟨w.heap.size,1,none⟩) (Nat.le_refl _) (.slice aa (atN a b).length ca)
   refine bodyPost_ret (v:=.agg #[.slice an (b.foldl addN a).length cn,.slice aa (atN a b).length ca]) (results_cell_row rfl _ _ w.heap.size 75 _ (0,0) _ rfl hfin.eq Tryz.underlying75 rfl infoBoth) rfl ⟨_,rfl,_,_,rfl,hbf,o1,o2⟩
end Go.Proofs.YtmpldjbdhbapbaaGreatDoor.tab
