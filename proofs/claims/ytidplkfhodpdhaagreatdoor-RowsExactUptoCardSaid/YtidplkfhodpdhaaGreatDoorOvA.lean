/- Texts VOver, OvL, OvR, one behind the other. -/
import Derived.ArgAppend
import Derived.Test.YtidplkfhodpdhaaGreatDoorTabNmA
set_option linter.unusedSimpArgs false
set_option linter.unusedVariables false
set_option maxRecDepth 100000
set_option maxHeartbeats 8000000
namespace Go.Proofs.YtidplkfhodpdhaaGreatDoor.val
open Go.ChangeShapes Go.WideShapes Go.ChangeAt Go.RowKit kit dec
structure Out(S:Nat→Prop)(w w':World):Prop where
 os:w'.os=w.os
 tape:w'.tape=w.tape
 output:w'.output=w.output
 size:w.heap.size≤w'.heap.size
 block:∀b,b<w.heap.size→¬S b→w'.heap[b]? = w.heap[b]?
theorem Out.refl(S:Nat→Prop)(w:World):Out S w w:=⟨rfl,rfl,rfl,Nat.le_refl _,fun _ _ _=>rfl⟩
theorem Out.trans{S T:Nat→Prop}{a b c:World}(h:Out S a b)(k:Out T b c)(hT:∀x,T x→S x):Out S a c:=
 ⟨k.os.trans h.os,k.tape.trans h.tape,k.output.trans h.output,Nat.le_trans h.size k.size,fun x hx hn=>(k.block x (Nat.lt_of_lt_of_le hx h.size) (fun ht=>hn (hT x ht))).trans (h.block x hx hn)⟩
theorem Out.below{S:Nat→Prop}{a b:World}(h:Out S a b)(B:Nat)(hB:B≤a.heap.size)(hS:∀x,S x→B≤x):Below B a b:=
 ⟨h.os,h.tape,h.output,h.size,fun k hk=>h.block k (Nat.lt_of_lt_of_le hk hB) (fun hs=>by have:=hS k hs;omega)⟩
theorem Out.ofBelow{S:Nat→Prop}{a b:World}(h:Below a.heap.size a b):Out S a b:=⟨h.os,h.tape,h.output,h.size,fun k hk _=>h.block k hk⟩
theorem Out.setCell{S:Nat→Prop}{a b:World}(h:Out S a b)(p:Addr)(hp:S p.block)(u:Value):Out S a (b.setCell p u):=
 ⟨h.os,h.tape,h.output,by simpa[World.setCell]using h.size,fun k hk hn=>(Below.heap_setCell b p u k (fun e=>hn (e ▸ hp))).trans (h.block k hk hn)⟩
def set6at(w:World)(b o:Nat)(v0 v1 v2 v3 v4 v5:Value):World:=(((((w.setCell ⟨b,o,none⟩ v0).setCell ⟨b,o+1,none⟩ v1).setCell ⟨b,o+2,none⟩ v2).setCell ⟨b,o+3,none⟩ v3).setCell ⟨b,o+4,none⟩ v4).setCell ⟨b,o+5,none⟩ v5
theorem heap_set6at(w:World)(b o:Nat)(v0 v1 v2 v3 v4 v5:Value)(k:Nat)(h:k≠b):(set6at w b o v0 v1 v2 v3 v4 v5).heap[k]? = w.heap[k]?:=by
 unfold set6at
 rw[Below.heap_setCell _ _ _ _ h,Below.heap_setCell _ _ _ _ h,Below.heap_setCell _ _ _ _ h,Below.heap_setCell _ _ _ _ h,Below.heap_setCell _ _ _ _ h,Below.heap_setCell _ _ _ _ h]
theorem Out.set6at{S:Nat→Prop}{a w:World}(h:Out S a w)(b o:Nat)(hb:S b)(v0 v1 v2 v3 v4 v5:Value):Out S a (val.set6at w b o v0 v1 v2 v3 v4 v5):=by
 unfold val.set6at
 exact(((((h.setCell ⟨b,o,none⟩ hb v0).setCell ⟨b,o+1,none⟩ hb v1).setCell ⟨b,o+2,none⟩ hb v2).setCell ⟨b,o+3,none⟩ hb v3).setCell ⟨b,o+4,none⟩ hb v4).setCell ⟨b,o+5,none⟩ hb v5
theorem six_sets(A B:List Value)(c0 c1 c2 c3 c4 c5 v0 v1 v2 v3 v4 v5:Value)(o:Nat)(ho:o=A.length):
 ((((((A++[c0,c1,c2,c3,c4,c5]++B).set o v0).set (o+1) v1).set (o+2) v2).set (o+3) v3).set (o+4) v4).set (o+5) v5=A++[v0,v1,v2,v3,v4,v5]++B:=by
 subst ho
 simp[List.append_assoc,List.set_append_right]
theorem own_set{w:World}{g n cap:Nat}{p1 p2:List (V×Value)}{k k':Int}{b b':Bool}{m m':Int}{t t' x x':ByteArray}{l l':List V}{s s':Value}
 (own:w.ownsRow 0 52 6 (.slice (some ⟨g,0,none⟩) n cap) (p1++(.mk k b m t x l,s)::p2).length (rowL (p1++(.mk k b m t x l,s)::p2))):
 (set6at w g (p1.length * 6) (.int .i64 k') (.bool b') (.int .i64 m') (.string t') (.string x') s').ownsRow 0 52 6 (.slice (some ⟨g,0,none⟩) n cap) (p1++(.mk k' b' m' t' x' l',s')::p2).length (rowL (p1++(.mk k' b' m' t' x' l',s')::p2)):=by
 refine⟨rowL_len _,.inr ?_⟩
 rcases own.2 with⟨h,_⟩|⟨g',cap',cur,hv,hb,hg,hn,hm,hs,htk⟩
 ·cases h
 ·injection hv with e1 e2 e3
  injection e1 with e1
  injection e1 with e1
  subst e1 e2 e3
  have hq:Blk w g cur 52:=hg
  have hset:=(((((hq.set (p1.length * 6) (.int .i64 k')).set (p1.length * 6+1) (.bool b')).set (p1.length * 6+2) (.int .i64 m')).set (p1.length * 6+3) (.string t')).set (p1.length * 6+4) (.string x')).set (p1.length * 6+5) s'
  refine⟨g,cap,_,by simp,hb,hset,by simpa using hn,hm,by simpa using hs,?_⟩
  have hd:=List.take_append_drop ((p1++(V.mk k b m t x l,s)::p2).length * 6) cur.toList
  rw[htk,rowL_app,rowL,six]at hd
  simp only[Array.toList_setIfInBounds]
  rw[←hd,show rowL p1++([Value.int .i64 k,.bool b,.int .i64 m,.string t,.string x,s]++rowL p2)++cur.toList.drop ((p1++(V.mk k b m t x l,s)::p2).length * 6)=rowL p1++[Value.int .i64 k,.bool b,.int .i64 m,.string t,.string x,s]++(rowL p2++cur.toList.drop ((p1++(V.mk k b m t x l,s)::p2).length * 6)) by simp[List.append_assoc],
   six_sets _ _ _ _ _ _ _ _ _ _ _ _ _ _ _ (by rw[rowL_len])]
  rw[rowL_app,rowL,six]
  have hl:(rowL p1++([Value.int .i64 k',.bool b',.int .i64 m',.string t',.string x',s']++rowL p2)).length=(p1++(V.mk k' b' m' t' x' l',s')::p2).length * 6:=by
   simp[rowL_len];omega
  rw[←hl]
  have:rowL p1++[Value.int .i64 k',.bool b',.int .i64 m',.string t',.string x',s']++(rowL p2++cur.toList.drop ((p1++(V.mk k b m t x l,s)::p2).length * 6))=(rowL p1++([Value.int .i64 k',.bool b',.int .i64 m',.string t',.string x',s']++rowL p2))++cur.toList.drop ((p1++(V.mk k b m t x l,s)::p2).length * 6):=by simp[List.append_assoc]
  rw[this,List.take_left]
def over98:V:=.mk 98 false 0 ByteArray.empty ByteArray.empty []
theorem LF.hit{w:World}{N:Nat}{S:Nat→Prop}{s:Value}{l:List V}(h:LF w N S s l)(i:Nat)(hi:i<l.length):
 ∃g cap T k b n t x l1 aoE capE,s=.slice (some ⟨g,0,none⟩) l.length cap∧l[i]=.mk k b n t x l1∧S g∧¬T g∧(∀b,T b→S b)∧Row6 w g (i * 6) k b n t x (.slice aoE l1.length capE)∧LF w N T (.slice aoE l1.length capE) l1 ∧
  (∃cur,Blk w g cur 52∧i * 6+6≤cur.size) ∧
  ∀w',Out T w w'→LF (set6at w' g (i * 6) (.int .i64 98) (.bool false) (.int .i64 0) (.string ByteArray.empty) (.string ByteArray.empty) (.slice none 0 0)) N S s (l.set i over98):=by
 cases h with
 | mk ps P e hN own hS nb sub dis ok h =>
  subst e
  have hi':i<ps.length:=by simpa using hi
  rcases own.2 with⟨rfl,hn⟩|⟨g,cap,cur,rfl,_,hg,hn,hm,hs,_⟩
  ·omega
  ·have hc:=h i hi'
   have hok:=ok ps[i] (List.getElem_mem _)
   rcases he:ps[i] with⟨⟨k,b,n,t,x,l1⟩,sE⟩
   rw[he]at hc hok
   replace hc:LF w N (P i) sE l1:=hc
   obtain⟨aoE,capE,rfl,_⟩:=hc.form
   have hr:=own_six own i hi' (k:=k) (bo:=b) (m:=n) (t:=t) (x:=x) (l:=l1) (by rw[he])
   rw[he,Nat.mul_comm 6 i]at hr
   refine⟨g,cap,P i,k,b,n,t,x,l1,aoE,capE,by simp,by simp[he],hS g rfl,nb g rfl i,sub i,hr,hc,⟨cur,hg,by omega⟩,fun w' ho=>?_⟩
   obtain⟨p1,p2,hp,hp1⟩:∃p1 p2,ps=p1++(.mk k b n t x l1,.slice aoE l1.length capE)::p2∧p1.length=i:=
    ⟨ps.take i,ps.drop (i+1),by rw[←he];simp,by simp;omega⟩
   have own':=own_stay (w':=w') own (fun g' e=>by injection e with e;subst e;exact ho.block g (own.lt g rfl).2 (nb g rfl i))
   subst hp
   subst hp1
   have own2:=own_set (k':=98) (b':=false) (m':=0) (t':=ByteArray.empty) (x':=ByteArray.empty) (l':=[]) (s':=.slice none 0 0) own'
   refine .mk (p1++(over98,.slice none 0 0)::p2) P (by simp) (by simpa using hN) (by simpa[over98]using own2) hS nb sub dis ?_ ?_
   ·intro p hp
    rcases List.mem_append.1 hp with hp|hp
    ·exact ok p (by simp[hp])
    ·rcases List.mem_cons.1 hp with rfl|hp
     ·exact⟨⟨by decide,by decide⟩,⟨by decide,by decide⟩,Nat.zero_le _,Nat.zero_le _⟩
     ·exact ok p (by simp[hp])
   ·intro j hj
    have hj':j<(p1++(V.mk k b n t x l1,Value.slice aoE l1.length capE)::p2).length:=by simpa using hj
    have hjs:=h j hj'
    by_cases hij:j=p1.length
    ·subst hij
     rw[List.getElem_append_right (Nat.le_refl _)]
     simp only[Nat.sub_self,List.getElem_cons_zero]
     exact LF.nil _ _ _
    ·have heq:(p1++(over98,Value.slice none 0 0)::p2)[j]=(p1++(V.mk k b n t x l1,Value.slice aoE l1.length capE)::p2)[j]:=by
      rcases Nat.lt_or_ge j p1.length with hlt|hge
      ·rw[List.getElem_append_left hlt,List.getElem_append_left hlt]
      ·rw[List.getElem_append_right hge,List.getElem_append_right hge]
       obtain⟨d,hd⟩:∃d,j-p1.length=d+1:=⟨j-p1.length-1,by omega⟩
       simp only[hd,List.getElem_cons_succ]
     rw[heq]
     refine hjs.stay fun b' hb hlt=>?_
     rw[heap_set6at _ _ _ _ _ _ _ _ _ _ (fun e:b'=g=>nb g rfl j (by rw[←e];exact hb))]
     exact ho.block b' hlt (fun hT=>hij (dis j _ b' hb hT))
def OverX(N m:Nat):Prop:=∀(w:World) (k:Int) (b:Bool) (n:Int) (t x:ByteArray) (s:Value) (l:List V) (S:Nat→Prop),SizeOf.sizeOf l<m→LF w N S s l→(∀b,S b→b<w.heap.size) →
 Calls Tryz.prog 61 #[agg6 k b n t x s] w fun e w'=>e=.returned (.tuple #[])∧Out S w w'
theorem over_all(N:Nat)(hN:N≤1048576):∀m,OverX N m:=by
 intro m
 induction m with
 |zero=>intro w k b n t x s l S hm;omega
 | succ m ih =>
  intro w k b n t x s l S hm hl hSlt
  obtain⟨ao,cap,rfl,hNl⟩:=hl.form
  replace ih:=Hd ih
  have hli:(l.length:Int)≤9223372036854775807:=by omega
  have hSB:¬S w.heap.size:=fun h=>by have:=hSlt _ h;omega
  have hl0:=Hd (hl.stay (w':=w.alloc (.cells #[.int .i64 k,.bool b,.int .i64 n,.string t,.string x,.slice ao l.length cap] 52)) fun b hS hlt=>Below.heap_alloc w _ b hlt)
  replace hSlt:=Hd hSlt
  clear hl
  go_enter Tryz.func61,Tryz.ntmps61
  unfold agg6
  go_wp2
  go_loopw [2] (fun v wr=>∃(i:Nat) (l':List V),i≤l.length∧v=.int .i64 i∧l'.length=l.length∧Hid (∀j,i≤j→l'[j]? = l[j]?)∧Hid (LF wr N S (.slice ao l.length cap) l')∧Hid (Blk wr w.heap.size #[.int .i64 k,.bool b,.int .i64 n,.string t,.string x,.slice ao l.length cap] 52)∧Hid (Out S w wr)) (fun v _=>l.length-(intOf v).toNat)
  case atStart=>exact⟨0,l,by omega,rfl,rfl,fun _ _=>rfl,hl0,Blk.new _ _ _,Out.ofBelow ((Below.refl _ _).alloc (Nat.le_refl _) _)⟩
  case round=>
   clear hl0
   obtain⟨i,l',hi,rfl,hll,hrest,hlf,hq,ho⟩:=hrel
   obtain⟨w0,rfl⟩:∃w0:World,w0=wr:=⟨_,rfl⟩
   have x5:=hq.out.cell 5 rfl
   by_cases hlt:i<l.length
   ·have hki:(i:Int)<(l.length:Int):=by omega
    obtain⟨g,cap',T,k1,bo,n1,t1,x1,l1,aoE,capE,he0,he,hSg,hTg,hTS,hr,hlE,⟨cur,hcur,hcs⟩,hset⟩:=hlf.out.hit i (by omega)
    injection he0 with e1 e2 e3
    subst e1
    have he1:l[i]=.mk k1 bo n1 t1 x1 l1:=by
     have h1:=hrest.out i (Nat.le_refl _)
     rw[List.getElem?_eq_getElem (by omega),List.getElem?_eq_getElem hlt,he]at h1
     exact(Option.some.inj h1).symm
    have hmem:SizeOf.sizeOf l[i]<SizeOf.sizeOf l:=List.sizeOf_lt_of_mem (List.getElem_mem _)
    rw[he1]at hmem
    have hm1:SizeOf.sizeOf l1<m:=by simp at hmem;omega
    have hSw:=ho.out.size
    have hcall:=ih.out w0 k1 bo n1 t1 x1 _ l1 T hm1 hlE (fun b hb=>by have:=hSlt.out b (hTS b hb);omega)
    unfold agg6 at hcall
    replace hcall:=Hd hcall
    obtain⟨z0,z1,z2,z3,z4,z5⟩:=hr.six
    replace hset:=Hd hset
    replace hTS:=Hd hTS
    clear hr he he1 hlE hmem e2 e3 hlf
    go_wp2_with fail
    refine(hcall.out).mono ?_
    rintro e w2 ⟨rfl,ho2⟩
    have hcur2:Blk w2 g cur 52:=(ho2.block g hcur.lt hTg).trans hcur
    have hq2:Blk w2 w.heap.size _ _:=(ho2.block _ hq.out.lt (fun h=>hSB (hTS.out _ h))).trans hq.out
    have ho3:=Hd (ho.out.trans ho2 hTS.out)
    have hl2:=Hd (hset.out w2 ho2)
    have y5:=hq2.cell 5 rfl
    have z0:=hcur2.cell (i * 6) (Array.getElem?_eq_getElem (by omega))
    have z1:=hcur2.cell (i * 6+1) (Array.getElem?_eq_getElem (by omega))
    have z2:=hcur2.cell (i * 6+2) (Array.getElem?_eq_getElem (by omega))
    have z3:=hcur2.cell (i * 6+3) (Array.getElem?_eq_getElem (by omega))
    have z4:=hcur2.cell (i * 6+4) (Array.getElem?_eq_getElem (by omega))
    have z5:=hcur2.cell (i * 6+5) (Array.getElem?_eq_getElem (by omega))
    have zf:=hcur2.free
    replace hq2:=Hd hq2
    replace hcur2:=Hd hcur2
    clear hcall hset ho2 hcur hq ho x5
    have hne:w.heap.size≠g:=fun e=>hSB (e ▸ hSg)
    have hq3:=Hd ((heap_set6at w2 g (i * 6) (.int .i64 98) (.bool false) (.int .i64 0) (.string ByteArray.empty) (.string ByteArray.empty) (.slice none 0 0) _ hne).trans hq2.out)
    have ho4:=Hd (ho3.out.set6at g (i * 6) hSg (.int .i64 98) (.bool false) (.int .i64 0) (.string ByteArray.empty) (.string ByteArray.empty) (.slice none 0 0))
    have hrest2:Hid (∀j,i+1≤j→(l'.set i over98)[j]? = l[j]?):=Hd fun j hj=>by rw[List.getElem?_set_ne (by omega)];exact hrest.out j (by omega)
    have hll2:(l'.set i over98).length=l.length:=by rw[List.length_set];exact hll
    clear hrest hll
    go_wp2
    exact⟨⟨i+1,l'.set i over98,by omega,by go_num,hll2,hrest2,hl2,hq3,ho4⟩,by simp[intOf];omega⟩
   ·have hki:¬(i:Int)<(l.length:Int):=by omega
    go_wp2
    go_end0
    exact⟨rfl,ho.out⟩
theorem LF.hitBy{w:World}{N:Nat}{S:Nat→Prop}{s:Value}{l:List V}(h:LF w N S s l)(i:Nat)(hi:i<l.length):
 ∃g cap T k b n t x l1 aoE capE,s=.slice (some ⟨g,0,none⟩) l.length cap∧l[i]=.mk k b n t x l1∧S g∧¬T g∧(∀b,T b→S b)∧Row6 w g (i * 6) k b n t x (.slice aoE l1.length capE)∧LF w N T (.slice aoE l1.length capE) l1 ∧
  (∃cur,Blk w g cur 52∧i * 6+6≤cur.size) ∧
  ∀(k2 m2:Int) w',In64 k2→In64 m2→Out T w w'→LF (set6at w' g (i * 6) (.int .i64 k2) (.bool false) (.int .i64 m2) (.string ByteArray.empty) (.string ByteArray.empty) (.slice none 0 0)) N S s (l.set i (.mk k2 false m2 ByteArray.empty ByteArray.empty [])):=by
 cases h with
 | mk ps P e hN own hS nb sub dis ok h =>
  subst e
  have hi':i<ps.length:=by simpa using hi
  rcases own.2 with⟨rfl,hn⟩|⟨g,cap,cur,rfl,_,hg,hn,hm,hs,_⟩
  ·omega
  ·have hc:=h i hi'
   have hok:=ok ps[i] (List.getElem_mem _)
   rcases he:ps[i] with⟨⟨k,b,n,t,x,l1⟩,sE⟩
   rw[he]at hc hok
   replace hc:LF w N (P i) sE l1:=hc
   obtain⟨aoE,capE,rfl,_⟩:=hc.form
   have hr:=own_six own i hi' (k:=k) (bo:=b) (m:=n) (t:=t) (x:=x) (l:=l1) (by rw[he])
   rw[he,Nat.mul_comm 6 i]at hr
   refine⟨g,cap,P i,k,b,n,t,x,l1,aoE,capE,by simp,by simp[he],hS g rfl,nb g rfl i,sub i,hr,hc,⟨cur,hg,by omega⟩,fun k2 m2 w' hk2 hm2 ho=>?_⟩
   obtain⟨p1,p2,hp,hp1⟩:∃p1 p2,ps=p1++(.mk k b n t x l1,.slice aoE l1.length capE)::p2∧p1.length=i:=
    ⟨ps.take i,ps.drop (i+1),by rw[←he];simp,by simp;omega⟩
   have own':=own_stay (w':=w') own (fun g' e=>by injection e with e;subst e;exact ho.block g (own.lt g rfl).2 (nb g rfl i))
   subst hp
   subst hp1
   have own2:=own_set (k':=k2) (b':=false) (m':=m2) (t':=ByteArray.empty) (x':=ByteArray.empty) (l':=[]) (s':=.slice none 0 0) own'
   refine .mk (p1++(.mk k2 false m2 ByteArray.empty ByteArray.empty [],.slice none 0 0)::p2) P (by simp) (by simpa using hN) (by simpa using own2) hS nb sub dis ?_ ?_
   ·intro p hp
    rcases List.mem_append.1 hp with hp|hp
    ·exact ok p (by simp[hp])
    ·rcases List.mem_cons.1 hp with rfl|hp
     ·exact⟨hk2,hm2,Nat.zero_le _,Nat.zero_le _⟩
     ·exact ok p (by simp[hp])
   ·intro j hj
    have hj':j<(p1++(V.mk k b n t x l1,Value.slice aoE l1.length capE)::p2).length:=by simpa using hj
    have hjs:=h j hj'
    by_cases hij:j=p1.length
    ·subst hij
     rw[List.getElem_append_right (Nat.le_refl _)]
     simp only[Nat.sub_self,List.getElem_cons_zero]
     exact LF.nil _ _ _
    ·have heq:(p1++(V.mk k2 false m2 ByteArray.empty ByteArray.empty [],Value.slice none 0 0)::p2)[j]=(p1++(V.mk k b n t x l1,Value.slice aoE l1.length capE)::p2)[j]:=by
      rcases Nat.lt_or_ge j p1.length with hlt|hge
      ·rw[List.getElem_append_left hlt,List.getElem_append_left hlt]
      ·rw[List.getElem_append_right hge,List.getElem_append_right hge]
       obtain⟨d,hd⟩:∃d,j-p1.length=d+1:=⟨j-p1.length-1,by omega⟩
       simp only[hd,List.getElem_cons_succ]
     rw[heq]
     refine hjs.stay fun b' hb hlt=>?_
     rw[heap_set6at _ _ _ _ _ _ _ _ _ _ (fun e:b'=g=>nb g rfl j (by rw[←e];exact hb))]
     exact ho.block b' hlt (fun hT=>hij (dis j _ b' hb hT))
theorem own_behind{w:World}{B k:Nat}{t:TypeId}{v:Value}{n:Nat}{xs:List Value}(h:w.ownsRow B t k v n xs){g j:Nat}(hj:n * k≤j)(u:Value):(w.setCell ⟨g,j,none⟩ u).ownsRow B t k v n xs:=by
 refine⟨h.1,?_⟩
 rcases h.2 with hn|⟨g',cap,cur,rfl,h0,hg,hnc,hcm,hcs,htk⟩
 ·exact .inl hn
 ·by_cases he:g'=g
  ·subst he
   have hq:Blk w g' cur t:=hg
   refine .inr ⟨g',cap,_,rfl,h0,hq.set j u,hnc,hcm,by simpa using hcs,?_⟩
   rw[Array.toList_setIfInBounds,List.take_set_of_le hj]
   exact htk
  ·exact .inr ⟨g',cap,cur,rfl,h0,(Below.heap_setCell _ _ _ _ (by simpa using he)).trans hg,hnc,hcm,hcs,htk⟩
theorem LF.behind{w:World}{N:Nat}{S:Nat→Prop}{v:Value}{l:List V}(h:LF w N S v l){g j:Nat}(hg:v.ownBlock=some g)(hj:l.length * 6≤j)(u:Value):LF (w.setCell ⟨g,j,none⟩ u) N S v l:=by
 cases h with
 |mk ps P e hN own hS nb sub dis ok h=>
  subst e
  rw[List.length_map]at hj
  exact .mk ps P rfl hN (own_behind own hj u) hS nb sub dis ok fun j' hj'=>(h j' hj').stay fun b hb _=>Below.heap_setCell _ _ _ b (fun e=>nb g hg j' (by rw[←(show b=g from e)];exact hb))
theorem LF.behinds{N:Nat}{S:Nat→Prop}{v:Value}{l:List V}{g:Nat}(hg:v.ownBlock=some g):∀(vs:List Value) (o:Nat) (w:World),LF w N S v l→l.length * 6≤o→LF (w.setCells g o vs) N S v l
 |[],_,_,h,_=>h
 |u::vs,o,w,h,ho=>LF.behinds hg vs (o+1) _ (h.behind hg ho u) (by omega)
theorem Out.setCells{S:Nat→Prop}{a:World}{g:Nat}(hg:S g):∀(vs:List Value) (o:Nat) (w:World),Out S a w→Out S a (w.setCells g o vs)
 |[],_,_,h=>h
 |u::vs,o,w,h=>Out.setCells hg vs (o+1) _ (h.setCell ⟨g,o,none⟩ hg u)
theorem LF.behind6{w:World}{N:Nat}{S:Nat→Prop}{v:Value}{l:List V}(h:LF w N S v l){g:Nat}(hg:v.ownBlock=some g)(v0 v1 v2 v3 v4 v5:Value):LF (set6at w g (l.length * 6) v0 v1 v2 v3 v4 v5) N S v l:=by
 unfold set6at
 exact(((((h.behind hg (Nat.le_refl _) v0).behind hg (by omega) v1).behind hg (by omega) v2).behind hg (by omega) v3).behind hg (by omega) v4).behind hg (by omega) v5
theorem wpList_more{w:World}{ops:Array Oper}{rest:List Oper}{o:Oper}{a:Act}{Q:Exit→Act→World→Prop}(hgd:o.guard=none)(s x:Operand)
 (ho:o.op=.call { callee:=.builtin .append,args:=#[s,x],argTypes:=#[37,37] })
 (N:Nat)(T:Nat→Prop)(v:Value)(l:List V)(n:Nat)(hnl:l.length=n)(hs:a.eval s=v)(hL:LF w N T v l)(hT:∀b,T b→b<w.heap.size)
 (g:Nat)(L:List Value)(hx:a.eval x=.slice (some ⟨g,0,none⟩) 1 1)(hg:Blk w g L.toArray 52)(hL6:L.length=6)(hone:∀u∈L,u.oneCell'=true)(hlen:n+1≤1048576)
 (hK:∀g' c' w',LF w' N T v l→Out T w w'→(T g'∨w.heap.size≤g')→Hid (∃cur,Blk w' g' cur 52∧n * 6+6≤cur.size)→(∀v0 v1 v2 v3 v4 v5,LF (set6at w' g' (n * 6) v0 v1 v2 v3 v4 v5) N T v l)→n+1≤c' →
  wpList Tryz.prog ops Q rest (a.put o.dst (.slice (some ⟨g',0,none⟩) (n+1) c')) w'):
 wpList Tryz.prog ops Q (o::rest) a w:=by
 subst hnl
 obtain⟨i0,hi,hp⟩:=Option.map_eq_some_iff.1 Tryz.infoV
 have hz2:i0.size=6:=congrArg (fun p=>p.2.1) hp
 have hz3:i0.bytes=80:=congrArg (fun p=>p.2.2) hp
 have hz1:i0.zero.map (·.cells.size)=some 6:=congrArg (fun p=>p.1) hp
 obtain⟨z,hz,hzs⟩:=Option.map_eq_some_iff.1 hz1
 have hnews:∀j u,L[j]? = some u→w.cell? ((⟨g,0,none⟩:Addr).add j)=some u:=fun j u hu=>by
  rw[Go.WideShapes.add_plain,Nat.zero_add]
  exact hg.cell j (by simpa using hu)
 have hmx:l.length+1≤maxLen:=by unfold maxLen;omega
 have hgrown:∀v' w',(∃xs,w'.ownsRow w.heap.size 52 6 v' (l.length+1) xs)→w.grownBy w' none→wpList Tryz.prog ops Q rest (a.put o.dst v') w':=by
  intro v' w' hown hgr
  obtain⟨xs,hown⟩:=hown
  have hbl:Below w.heap.size w w':=⟨hgr.os,hgr.tape,hgr.output,hgr.size,fun k hk=>hgr.block k hk (by simp)⟩
  have hL':=hL.stay (w':=w') fun b hb hlt=>hbl.block b hlt
  rcases hown.2 with⟨_,hn⟩|⟨g',c',cur,rfl,h0,hg',hnc,hcm,hcs,htk⟩
  ·omega
  ·refine hK g' c' w' hL' (Out.ofBelow hbl) (.inr h0) (Hd ⟨cur,hg',by omega⟩) (fun v0 v1 v2 v3 v4 v5=>hL'.stay fun b hb _=>heap_set6at _ _ _ _ _ _ _ _ _ _ (fun e=>by have:=hT b hb;omega)) (by omega)
 obtain⟨own,hTg⟩:(∃xs,w.ownsRow 0 52 6 v l.length xs)∧∀g,v.ownBlock=some g→T g:=by
  cases hL with
  |mk ps P e hN own hS nb sub dis ok h=>
   subst e
   rw[List.length_map]
   exact⟨⟨_,own⟩,hS⟩
 obtain⟨xs,own⟩:=own
 rcases own.2 with⟨rfl,hn⟩|⟨gv,cap,cur,rfl,_,hgv,hnc,hcm,hcs,htk⟩
 ·refine wpList_append_grows w hgd s x 37 ho 52 i0 z 6 80 Tryz.underlying37 hi hz hz2 hz3 hzs (by decide) none 0 0 [] hs (fun _=>⟨rfl,rfl⟩) rfl (fun b h=>by cases h) ⟨g,0,none⟩ 1 1 L hx (by omega) hnews hone (by omega) (by unfold maxLen;omega) (by omega) ?_
  intro v' w' h1 h2
  exact hgrown v' w' ⟨[]++L,by rw[hn];exact h1⟩ h2
 ·by_cases hroom:l.length+1≤cap
  ·have hcl:∀j u,xs[j]? = some u→w.cell? ⟨gv,0+j,none⟩=some u:=fun j u hu=>by
    have:=own.cells (g:=gv) rfl j u hu
    rwa [Go.WideShapes.add_plain]at this
   refine wpList_append_arg w hgd s x 37 ho 52 i0 z 6 80 Tryz.underlying37 hi hz hz2 hz3 hzs (by decide) gv 0 l.length cap xs hs own.1 hcl ⟨g,0,none⟩ 1 1 L hx (by omega) hnews hone ?_ hmx (by omega) ?_ (fun h=>by omega)
   ·intro _ j hj
    have hq:Blk w gv cur 52:=hgv
    have hjc:0+l.length * 6+j<cur.size:=by omega
    rw[hq.cell _ (Array.getElem?_eq_getElem hjc)]
    exact⟨rfl,hq.free _⟩
   ·intro _
    have hLs:=LF.behinds (g:=gv) rfl L (0+l.length * 6) w hL (by omega)
    have hO:Out T w (w.setCells gv (0+l.length * 6) L):=Out.setCells (hTg gv rfl) L _ w (Out.refl _ _)
    refine hK gv cap _ hLs hO (.inl (hTg gv rfl)) (Hd ?_) (fun v0 v1 v2 v3 v4 v5=>hLs.behind6 rfl v0 v1 v2 v3 v4 v5) hroom
    cases hLs with
    | mk ps P e hN own2 hS nb sub dis ok h =>
     rcases own2.2 with⟨e2,_⟩|⟨g2,cap2,cur2,e2,_,hg2,_,_,hcs2,_⟩
     ·cases e2
     ·injection e2 with e2 _ e3
      injection e2 with e2
      injection e2 with e2
      subst e2
      subst e3
      exact⟨cur2,hg2,by omega⟩
  ·refine wpList_append_grows w hgd s x 37 ho 52 i0 z 6 80 Tryz.underlying37 hi hz hz2 hz3 hzs (by decide) (some ⟨gv,0,none⟩) l.length cap xs hs (fun h=>by cases h) own.1 (fun b hb j u hu=>by cases hb;exact own.cells (g:=gv) rfl j u hu) ⟨g,0,none⟩ 1 1 L hx (by omega) hnews hone (by omega) hmx (by omega) ?_
   intro v' w' h1 h2
   exact hgrown v' w' ⟨_,h1⟩ h2
end Go.Proofs.YtidplkfhodpdhaaGreatDoor.val
namespace Go.Proofs.YtidplkfhodpdhaaGreatDoor.tab
open Go.ChangeShapes Go.WideShapes Go.ChangeAt Go.RowKit kit dec val
open hyp (RowA TextsA CellsStay stay_of_below textsV own_row)
structure OvF(S:Nat→Prop)(v:Value)(vs:List Value)(P:Nat→Nat→Prop):Prop where
 hS:∀g,v.ownBlock=some g→S g
 nb:∀g,v.ownBlock=some g→∀j,¬P j g
 sub:∀j b,P j b→S b
 dis:∀i j b,P i b→P j b→i=j
structure OvW(N:Nat)(v:Value)(vs:List Value)(P:Nat→Nat→Prop)(lens:List Nat)(w:World)(rs:List (List V)):Prop where
 len:rs.length=vs.length
 own:w.ownsRow 0 37 1 v vs.length vs
 rows:∀j (hj:j<vs.length) (hj':j<rs.length),LF w N (P j) vs[j] rs[j]
 same:rs.map List.length=lens
theorem OvW.out{N:Nat}{S:Nat→Prop}{v:Value}{vs:List Value}{P:Nat→Nat→Prop}{lens:List Nat}{w w':World}{rs:List (List V)}{i:Nat}{r:List V}(h:OvW N v vs P lens w rs)(hF:OvF S v vs P)(hO:Out (P i) w w')(hi:i<rs.length)(hr:∀hi:i<vs.length,LF w' N (P i) vs[i] r)(hl:r.length=rs[i].length):
 OvW N v vs P lens w' (rs.set i r):=by
 refine⟨by rw[List.length_set];exact h.len,own_stay h.own fun g hg=>hO.block g (h.own.lt g hg).2 (hF.nb g hg i),fun j hj hj'=>?_,?_⟩
 ·by_cases hji:j=i
  ·subst hji
   rw[List.getElem_set_self]
   exact hr hj
  ·rw[List.getElem_set_ne (fun e=>hji e.symm)]
   exact(h.rows j hj (by simpa using hj')).stay fun b hb hlt=>hO.block b hlt (fun hb2=>hji (hF.dis j i b hb hb2))
 ·rw[←h.same]
  apply List.ext_getElem (by simp)
  intro j h1 h2
  rw[List.getElem_map,List.getElem_map]
  by_cases hji:j=i
  ·subst hji
   rw[List.getElem_set_self]
   exact hl
  ·rw[List.getElem_set_ne (fun e=>hji e.symm)]
theorem OvW.cell{N:Nat}{v:Value}{vs:List Value}{P:Nat→Nat→Prop}{lens:List Nat}{w:World}{rs:List (List V)}(h:OvW N v vs P lens w rs){ao:Option Addr}{c:Nat}(hv:v=.slice ao vs.length c){i:Nat}(hi:i<vs.length):
 ∃g,ao=some ⟨g,0,none⟩∧w.cell? ⟨g,i,none⟩=some vs[i]:=by
 rcases h.own.2 with⟨_,hn⟩|⟨g,cap,cur,e,_⟩
 ·omega
 ·subst hv
  injection e with e1 e2 e3
  subst e1
  have h9:=h.own.cells (g:=g) rfl i vs[i] (List.getElem?_eq_getElem hi)
  rw[Go.WideShapes.add_plain,Nat.zero_add]at h9
  exact⟨g,rfl,h9⟩
def markV(i:Nat):V:=.mk (100+((i % 100:Nat):Int)) false (i:Int) ByteArray.empty ByteArray.empty []
theorem _root_.Go.Proofs.YtidplkfhodpdhaaGreatDoor.val.Out.cellNew{S:Nat→Prop}{a w:World}(h:Out S a w)(p:Addr)(hp:S p.block∨a.heap.size≤p.block)(u:Value):Out S a (w.setCell p u):=
 ⟨h.os,h.tape,h.output,by simpa[World.setCell]using h.size,fun k hk hn=>(Below.heap_setCell w p u k (fun e=>by
  subst e
  rcases hp with hp|hp
  ·exact hn hp
  ·omega)).trans (h.block k hk hn)⟩
theorem _root_.Go.Proofs.YtidplkfhodpdhaaGreatDoor.val.Out.set6new{S:Nat→Prop}{a w:World}(h:Out S a w)(b o:Nat)(hb:S b∨a.heap.size≤b)(v0 v1 v2 v3 v4 v5:Value):Out S a (set6at w b o v0 v1 v2 v3 v4 v5):=by
 unfold val.set6at
 exact(((((h.cellNew ⟨b,o,none⟩ hb v0).cellNew ⟨b,o+1,none⟩ hb v1).cellNew ⟨b,o+2,none⟩ hb v2).cellNew ⟨b,o+3,none⟩ hb v3).cellNew ⟨b,o+4,none⟩ hb v4).cellNew ⟨b,o+5,none⟩ hb v5
def MkA(k:Nat)(r:List (List V)):Prop:=∀j (hj:j<r.length),j<k→∀m (hm:m<r[j].length),r[j][m]=markV j
def MkB(i k:Nat)(r:List (List V)):Prop:=∀(hi:i<r.length) m (hm:m<r[i].length),m<k→r[i][m]=markV i
theorem MkA.set{i:Nat}{r:List (List V)}(h:MkA i r)(x:List V):MkA i (r.set i x):=by
 intro j hj hji m hm
 have e:(r.set i x)[j]=r[j]'(by simpa using hj):=List.getElem_set_ne (by omega) _
 simp only[e]at hm ⊢
 exact h j (by simpa using hj) hji m hm
theorem MkB.set{i k:Nat}{r:List (List V)}(h:MkB i k r)(hi:i<r.length):MkB i (k+1) (r.set i (r[i].set k (markV i))):=by
 intro hi' m hm hmk
 have e:(r.set i (r[i].set k (markV i)))[i]'hi'=r[i].set k (markV i):=List.getElem_set_self _
 simp only[e]at hm ⊢
 by_cases hmk2:m=k
 ·subst hmk2
  exact List.getElem_set_self _
 ·rw[List.getElem_set_ne (fun e=>hmk2 e.symm)]
  exact h hi m (by simpa using hm) (by omega)
theorem MkA.next{i k:Nat}{r:List (List V)}(h:MkA i r)(h2:MkB i k r)(hk:∀hi:i<r.length,r[i].length≤k):MkA (i+1) r:=by
 intro j hj hji m hm
 by_cases e:j=i
 ·subst e
  exact h2 hj m hm (by have:=hk hj;omega)
 ·exact h j hj (by omega) m hm
theorem null_one:∀u∈([.int .i64 0,.bool false,.int .i64 0,.string ByteArray.empty,.string ByteArray.empty,.slice none 0 0]:List Value),u.oneCell'=true:=by
 intro u hu
 simp only[List.mem_cons,List.not_mem_nil,or_false]at hu
 rcases hu with rfl|rfl|rfl|rfl|rfl|rfl<;>rfl
theorem row_form{N:Nat}{v:Value}{vs:List Value}{P:Nat→Nat→Prop}{lens:List Nat}{w:World}{rs:List (List V)}(h:OvW N v vs P lens w rs){i:Nat}(hi:i<vs.length)(hl:i<lens.length):
 ∃(hr:i<rs.length) (a:Option Addr) (c:Nat),vs[i]=.slice a lens[i] c∧rs[i].length=lens[i]∧lens[i]≤N:=by
 have hr:i<rs.length:=by rw[h.len];exact hi
 obtain⟨a,c,e,hN⟩:=(h.rows i hi hr).form
 have hle:rs[i].length=lens[i]:=by
  have h1:=h.same
  subst h1
  simp
 exact⟨hr,a,c,by rw[e,hle],hle,by omega⟩
theorem overRows_any(N:Nat)(hN:N≤1048576)(w:World)(v:Value)(rs:List (List V))(S:Nat→Prop)(hM:MR w N S v rs)(hSlt:∀b,S b→b<w.heap.size)(hl:rs.length≤1048576)(hrl9:∀r∈rs,r.length≤1048575):
 Calls Tryz.prog 20 #[v] w fun e w'=>e=.returned (.bool true)∧Out S w w':=by
 obtain⟨vs,P,h1,h2,h3,h4,h5,h6,h7⟩:=hM
 obtain⟨ao,c,rfl⟩:=own_form4x h2
 have hF:OvF S (.slice ao vs.length c) vs P:=⟨h3,h4,h5,h6⟩
 have hW0:Hid (OvW N (.slice ao vs.length c) vs P (rs.map List.length) w rs):=Hd ⟨h1.symm,h2,h7,rfl⟩
 obtain⟨lens,hlens⟩:∃lens,rs.map List.length=lens:=⟨_,rfl⟩
 rw[hlens]at hW0
 have hnl:lens.length=vs.length:=by rw[←hlens,List.length_map,h1]
 have hl9:Hid (∀i (h:i<lens.length),lens[i]≤1048575):=Hd fun i h=>by
  subst hlens
  rw[List.getElem_map]
  exact hrl9 _ (List.getElem_mem _)
 have hn:vs.length≤1048576:=by omega
 replace hF:=Hd hF
 replace hSlt:=Hd hSlt
 replace hlens:=Hd hlens
 clear h1 h2 h3 h4 h5 h6 h7 hl hrl9
 obtain⟨n,hnn⟩:∃n,vs.length=n:=⟨_,rfl⟩
 have hPS:Hid (∀i b,P i b→b<w.heap.size):=Hd fun i b hb=>hSlt.out b (hF.out.sub i b hb)
 rw[hnn]at hn hnl hF hW0 ⊢
 replace hnn:=Hd hnn
 replace hnl:=Hd hnl
 go_enter Tryz.func20,Tryz.ntmps20
 go_wp2
 go_loopw [3] (fun i wr=>∃(k:Nat) (r:List (List V)),k≤n∧i=.int .i64 (k:Int)∧Hid (OvW N (.slice ao n c) vs P lens wr r)∧Hid (Out S w wr)∧Hid (MkA k r)) (fun i _=>n-(intOf i).toNat)
 case atStart=>exact⟨0,rs,Nat.zero_le _,rfl,hW0,Hd (Out.refl _ _),Hd (fun j _ h=>by omega)⟩
 case round =>
  clear hW0
  obtain⟨i,r,hi,rfl,hW,hO,hmk⟩:=hrel
  obtain⟨w1,rfl⟩:∃w1:World,w1=wr:=⟨_,rfl⟩
  by_cases hlt:i<n
  ·have hki:(i:Int)<(n:Int):=by omega
   have hi1:=Hd (show i+1≤n from hlt)
   have hiv:i<vs.length:=by rw[hnn.out];exact hlt
   have hil:i<lens.length:=by rw[hnl.out];exact hlt
   obtain⟨hr0,a1,c1,hvi,-,hlN⟩:=row_form hW.out hiv hil
   obtain⟨ln,hln⟩:∃ln,lens[i]=ln:=⟨_,rfl⟩
   have hl9i:=hl9.out i hil
   rw[hln]at hvi hlN hl9i
   replace hln:=Hd hln
   obtain⟨g0,hg0,hc0⟩:=hW.out.cell (by rw[hnn.out]) hiv
   subst hg0
   rw[hvi]at hc0
   have hB0:=Hd (show MkB i 0 r from fun _ _ _ h=>by omega)
   obtain⟨z,hz⟩:∃z,i % 100=z:=⟨_,rfl⟩
   have hz1:(i:Int) % 100=(z:Int):=by omega
   have hz2:((i:Int).tmod 100)=(z:Int):=by rw[Int.tmod_eq_emod_of_nonneg (by omega)];exact hz1
   have hz3:z<100:=by omega
   have hia:In64 (100+(z:Int)):=by unfold In64;omega
   have hib:In64 (i:Int):=by unfold In64;omega
   replace hia:=Hd hia
   replace hib:=Hd hib
   have hmv:markV i=.mk (100+(z:Int)) false (i:Int) ByteArray.empty ByteArray.empty []:=by unfold markV;rw[hz]
   replace hvi:=Hd hvi
   replace hz:=Hd hz
   replace hmv:=Hd hmv
   have hO1:=hO
   have hmk1:=hmk
   clear hO hmk
   go_wp2
   go_loopw [4] (fun u wr=>∃(k:Nat) (r:List (List V)),k≤ln∧u=.int .i64 (k:Int)∧Hid (OvW N (.slice (some ⟨g0,0,none⟩) n c) vs P lens wr r)∧Hid (Out S w wr)∧Hid (MkA i r)∧Hid (MkB i k r)) (fun u _=>ln-(intOf u).toNat)
   case atStart=>exact⟨0,r,Nat.zero_le _,rfl,hW,hO1,hmk1,hB0⟩
   case round=>
    clear hW hO1 hmk1 hB0 hr0 hc0
    obtain⟨k,r,hk,rfl,hW,hO,hmk,hmb⟩:=hrel
    obtain⟨w2,rfl⟩:∃w2:World,w2=wr:=⟨_,rfl⟩
    obtain⟨hr0,a9,c9,hv9,hrl,-⟩:=row_form hW.out hiv hil
    rw[hln.out]at hrl
    obtain⟨_,hg0,hc0⟩:=hW.out.cell (by rw[hnn.out]) hiv
    cases hg0
    rw[hvi.out]at hc0
    have hg0l:=(hW.out.own.lt g0 rfl).2
    by_cases hlk:k<ln
    ·have hkk:(k:Int)<(ln:Int):=by omega
     have hk1:=Hd (show k+1≤ln from hlk)
     obtain⟨g2,cap2,T,k3,b3,n3,t3,x3,l3,aoE,capE,he0,he,hPg,hTg,hTP,hr6,hlE,⟨cur,hcur,hcs⟩,hset⟩:=(hW.out.rows i hiv hr0).hitBy k (by omega)
     rw[hvi.out]at he0
     injection he0 with e1 e2 e3
     clear e2 e3 he hv9
     subst e1
     have hcall:=over_all N (by omega) _ w2 k3 b3 n3 t3 x3 _ l3 T (Nat.lt_succ_self _) hlE (fun b hb=>by have:=hPS.out i b (hTP b hb);have:=hO.out.size;omega)
     unfold agg6 at hcall
     replace hcall:=Hd hcall
     obtain⟨z0,z1,z2,z3,z4,z5⟩:=hr6.six
     have hg0T:¬T g0:=fun h=>hF.out.nb g0 rfl i (hTP _ h)
     replace hset:=Hd hset
     replace hTP:=Hd hTP
     replace hrl:=Hd hrl
     clear hr6 hlE
     go_wp2_with fail
     refine hcall.out.mono ?_
     rintro e w3 ⟨rfl,ho2⟩
     have hcur2:Blk w3 g2 cur 52:=(ho2.block g2 hcur.lt hTg).trans hcur
     have hc3:=(cell_heapx (ho2.block g0 hg0l hg0T)).trans hc0
     have hO3:Out (P i) w2 (set6at w3 g2 (k * 6) (.int .i64 (100+(z:Int))) (.bool false) (.int .i64 (i:Int)) (.string ByteArray.empty) (.string ByteArray.empty) (.slice none 0 0)):=((Out.refl (P i) w2).trans ho2 hTP.out).set6at g2 (k * 6) hPg _ _ _ _ _ _
     have hWn:=hW.out.out hF.out hO3 hr0 (r:=r[i].set k (.mk (100+(z:Int)) false (i:Int) ByteArray.empty ByteArray.empty [])) (fun _=>hset.out _ _ w3 hia.out hib.out ho2) (by simp)
     rw[←hmv.out]at hWn
     have hOn:=Hd (hO.out.trans hO3 (fun b hb=>hF.out.sub i b hb))
     have hmkn:=Hd (hmk.out.set (r[i].set k (markV i)))
     have hmbn:=Hd (hmb.out.set hr0)
     have y0:=hcur2.cell (k * 6) (Array.getElem?_eq_getElem (by omega))
     have y1:=hcur2.cell (k * 6+1) (Array.getElem?_eq_getElem (by omega))
     have y2:=hcur2.cell (k * 6+2) (Array.getElem?_eq_getElem (by omega))
     have y3:=hcur2.cell (k * 6+3) (Array.getElem?_eq_getElem (by omega))
     have y4:=hcur2.cell (k * 6+4) (Array.getElem?_eq_getElem (by omega))
     have y5:=hcur2.cell (k * 6+5) (Array.getElem?_eq_getElem (by omega))
     have yf:=hcur2.free
     replace hWn:=Hd hWn
     clear hcall hset ho2 hcur hcur2 hW hO hmk hmb z0 z1 z2 z3 z4 z5 hc0 hO3 hg0l hg0T hrl
     go_wp2
     go_roundw
     case rel=>exact⟨k+1,_,hk1.out,by go_num,hWn,hOn,hmkn,hmbn⟩
     case measure=>have:=hk1.out;simp[intOf];omega
    ·have hkk:¬(k:Int)<(ln:Int):=by omega
     have hkl:k=ln:=by omega
     have hlaf:=hW.out.rows i hiv hr0
     rw[hvi.out]at hlaf
     have hal:Below w2.heap.size w2 (w2.alloc (.cells #[.int .i64 0,.bool false,.int .i64 0,.string ByteArray.empty,.string ByteArray.empty,.slice none 0 0] 52)):=(Below.refl _ _).alloc (Nat.le_refl _) _
     have hlaA:=hlaf.stay (w':=w2.alloc (.cells #[.int .i64 0,.bool false,.int .i64 0,.string ByteArray.empty,.string ByteArray.empty,.slice none 0 0] 52)) fun b hb hlt=>hal.block b hlt
     have hq:=Blk.new w2 #[.int .i64 0,.bool false,.int .i64 0,.string ByteArray.empty,.string ByteArray.empty,.slice none 0 0] 52
     have hPl:∀b,P i b→b<(w2.alloc (.cells #[.int .i64 0,.bool false,.int .i64 0,.string ByteArray.empty,.string ByteArray.empty,.slice none 0 0] 52)).heap.size:=fun b hb=>by
      have h1:=hPS.out i b hb
      have h2:=hO.out.size
      rw[World.size_alloc]
      omega
     have hg0P:¬P i g0:=hF.out.nb g0 rfl i
     have hset0:r.set i r[i]=r:=List.set_getElem_self _
     have hmkn:=Hd (hmk.out.next hmb.out (fun _=>by omega))
     replace hlaA:=Hd hlaA
     replace hPl:=Hd hPl
     replace hset0:=Hd hset0
     have hrl2:=Hd hrl
     have halh:=Hd hal
     have hs2:=World.size_alloc w2 (.cells #[.int .i64 0,.bool false,.int .i64 0,.string ByteArray.empty,.string ByteArray.empty,.slice none 0 0] 52)
     have hq2:=Hd hq
     replace hs2:=Hd hs2
     clear hlaf hal hq hkl hmk hmb hrl hv9
     go_wp2_with (at_builtin;refine wpList_more rfl _ _ rfl N (P i) _ r[i] ln hrl2.out rfl hlaA.out hPl.out w2.heap.size [.int .i64 0,.bool false,.int .i64 0,.string ByteArray.empty,.string ByteArray.empty,.slice none 0 0] rfl hq2.out rfl null_one ?hlen ?hK)
     any_goals (first|(case hlen=>omega)|skip)
     case hK=>
      intro g' c' w5 hLF hOut hg' hcu h6 hc'
      obtain⟨cur,hcur,hcs⟩:=hcu.out
      have hO5:Out (P i) w2 w5:=(Out.ofBelow halh.out).trans hOut (fun _ h=>h)
      have hc5:=(cell_heapx (hO5.block g0 hg0l hg0P)).trans hc0
      have hgn:P i g'∨w2.heap.size≤g':=hg'.imp id fun h=>by have:=hs2.out;omega
      have hO6:=hO5.set6new g' (ln * 6) hgn (.int .i64 99) (.bool false) (.int .i64 0) (.string ByteArray.empty) (.string ByteArray.empty) (.slice none 0 0)
      have hWn:=hW.out.out hF.out hO6 hr0 (r:=r[i]) (fun _=>by rw[hvi.out];exact h6 _ _ _ _ _ _) rfl
      rw[hset0.out]at hWn
      have hOn:=Hd (hO.out.trans hO6 (fun b hb=>hF.out.sub i b hb))
      have y0:=hcur.cell (ln * 6) (Array.getElem?_eq_getElem (by omega))
      have y1:=hcur.cell (ln * 6+1) (Array.getElem?_eq_getElem (by omega))
      have y2:=hcur.cell (ln * 6+2) (Array.getElem?_eq_getElem (by omega))
      have y3:=hcur.cell (ln * 6+3) (Array.getElem?_eq_getElem (by omega))
      have y4:=hcur.cell (ln * 6+4) (Array.getElem?_eq_getElem (by omega))
      have y5:=hcur.cell (ln * 6+5) (Array.getElem?_eq_getElem (by omega))
      have yf:=hcur.free
      have hin:(ln:Int)<((ln+1:Nat):Int):=by omega
      replace hWn:=Hd hWn
      clear hLF hOut hg' hcur h6 hO5 hO6 hgn hW hO hc0 hlaA hPl hq2 hset0 halh hs2
      go_wp2
      go_roundw
      case rel=>exact⟨i+1,r,hi1.out,by go_num,hWn,hOn,hmkn⟩
      case measure=>have:=hi1.out;simp[intOf];omega
  ·have hki:¬(i:Int)<(n:Int):=by omega
   obtain rfl:i=n:=by omega
   go_wp2
   go_loop [6] (fun u=>∃k:Nat,k≤i∧u=.int .i64 (k:Int)) (fun u=>i-(intOf u).toNat)
   case atStart=>exact⟨0,Nat.zero_le _,rfl⟩
   case round=>
    obtain⟨k,hk,rfl⟩:=hrel
    by_cases hlt2:k<i
    ·have hkk:(k:Int)<(i:Int):=by omega
     have hk1:=Hd (show k+1≤i from hlt2)
     have hiv:k<vs.length:=by rw[hnn.out];exact hlt2
     have hil:k<lens.length:=by rw[hnl.out];exact hlt2
     obtain⟨hr0,a1,c1,hvi,hrl,hlN⟩:=row_form hW.out hiv hil
     obtain⟨ln,hln⟩:∃ln,lens[k]=ln:=⟨_,rfl⟩
     rw[hln]at hvi hlN hrl
     obtain⟨g0,hg0,hc0⟩:=hW.out.cell (by rw[hnn.out]) hiv
     subst hg0
     rw[hvi]at hc0
     obtain⟨z,hz⟩:∃z,k % 100=z:=⟨_,rfl⟩
     have hz1:(k:Int) % 100=(z:Int):=by omega
     have hz2:((k:Int).tmod 100)=(z:Int):=by rw[Int.tmod_eq_emod_of_nonneg (by omega)];exact hz1
     have hz3:z<100:=by omega
     have hmv:markV k=.mk (100+(z:Int)) false (k:Int) ByteArray.empty ByteArray.empty []:=by unfold markV;rw[hz]
     replace hvi:=Hd hvi
     replace hz:=Hd hz
     replace hmv:=Hd hmv
     replace hln:=Hd hln
     replace hrl:=Hd hrl
     go_wp2
     go_loop [7] (fun u=>∃m:Nat,m≤ln∧u=.int .i64 (m:Int)) (fun u=>ln-(intOf u).toNat)
     case atStart=>exact⟨0,Nat.zero_le _,rfl⟩
     case round=>
      obtain⟨m,hm,rfl⟩:=hrel
      by_cases hlm:m<ln
      ·have hmm:(m:Int)<(ln:Int):=by omega
       have hm1:=Hd (show m+1≤ln from hlm)
       have hmr:m<r[k].length:=by rw[hrl.out];exact hlm
       obtain⟨g2,cap2,T,k3,b3,n3,t3,x3,l3,aoE,capE,he0,he,-,-,-,hr6,-,-,-⟩:=(hW.out.rows k hiv hr0).hitBy m hmr
       rw[hvi.out]at he0
       injection he0 with e1 e2 e3
       clear e2 e3
       subst e1
       rw[hmk.out k hr0 hlt2 m hmr,hmv.out]at he
       injection he with f0 f1 f2 f3 f4 f5
       subst f0 f1 f2 f3 f4 f5
       obtain⟨z0,z1,z2,z3,z4,z5⟩:=hr6.six
       clear hr6 z1 z3 z4 z5
       go_wp2
       go_round
       case rel=>exact⟨m+1,hm1.out,by go_num⟩
       case measure=>have:=hm1.out;simp[intOf];omega
      ·have hmm:¬(m:Int)<(ln:Int):=by omega
       go_wp2
       go_round
       case rel=>exact⟨k+1,hk1.out,by go_num⟩
       case measure=>have:=hk1.out;simp[intOf];omega
    ·have hkk:¬(k:Int)<(i:Int):=by omega
     go_wp2
     go_ret
     exact⟨rfl,hO.out⟩
end Go.Proofs.YtidplkfhodpdhaaGreatDoor.tab
