/- Contracts of lists and equal: the truth of being equal. -/
import Derived.Test.YtcaeipdgbaligaaGreatDoorVAlike
set_option linter.unusedSimpArgs false
set_option linter.unusedVariables false
set_option maxRecDepth 100000
set_option maxHeartbeats 2000000
namespace Go.Proofs.YtcaeipdgbaligaaGreatDoor.val
open Go.ChangeShapes Go.WideShapes Go.ChangeAt Go.RowKit kit dec
def Acc(s:Bool)(l m:List V)(k:Nat)(a:Int):Prop:=(a=1∨a=2)∧eqlL s l m=(if eqlL s (l.drop k) (m.drop k)=0 then 0 else if a=2 then 2 else eqlL s (l.drop k) (m.drop k))
theorem Acc.start(s:Bool)(l m:List V):Acc s l m 0 1:=by
 refine⟨.inl rfl,?_⟩
 rw[List.drop_zero,List.drop_zero]
 split
 ·assumption
 ·rw[if_neg (by decide)]
theorem Acc.step{s:Bool}{l m:List V}{k:Nat}{a:Int}(h:Acc s l m k a)(h1:k<l.length)(h2:k<m.length){v u:V}(hv:l[k]=v)(hu:m[k]=u):
 (eqlV s v u=0→eqlL s l m=0)∧(eqlV s v u=1→Acc s l m (k+1) a)∧(eqlV s v u=2→Acc s l m (k+1) 2):=by
 obtain⟨ha,h⟩:=h
 rw[List.drop_eq_getElem_cons h1,List.drop_eq_getElem_cons h2,hv,hu,eqlL]at h
 generalize eqlV s v u=e at *
 obtain⟨R,hR⟩:∃R,eqlL s (l.drop (k+1)) (m.drop (k+1))=R:=⟨_,rfl⟩
 obtain⟨T,hT⟩:∃T,eqlL s l m=T:=⟨_,rfl⟩
 rw[hR,hT]at h
 refine⟨fun e0=>?_,fun e0=>⟨ha,?_⟩,fun e0=>⟨.inr rfl,?_⟩⟩
 ·subst e0;rw[hT];simpa using h
 ·subst e0
  rw[hT,hR]
  by_cases e2:R=0
  ·subst e2;simpa using h
  ·simpa[e2]using h
 ·subst e0
  rw[hT,hR]
  by_cases e2:R=0
  ·subst e2;simpa using h
  ·simpa[e2]using h
theorem Acc.end{s:Bool}{l m:List V}{k:Nat}{a:Int}(h:Acc s l m k a)(h1:l.length≤k)(h2:m.length≤k):eqlL s l m=a:=by
 obtain⟨ha,h⟩:=h
 have he:eqlL s ([]:List V) []=1:=by rw[eqlL]<;>simp
 rw[List.drop_eq_nil_of_le h1,List.drop_eq_nil_of_le h2,he,if_neg (by decide)]at h
 rw[h]
 rcases ha with rfl|rfl<;>rfl
theorem eql_facts(s:Bool)(k:Int)(b:Bool)(n:Int)(t x:ByteArray)(l:List V)(k2:Int)(b2:Bool)(n2:Int)(t2 x2:ByteArray)(l2:List V):
 (k = 0 ∨ k2 = 0 → eqlV s (.mk k b n t x l) (.mk k2 b2 n2 t2 x2 l2) = 2) ∧ (k ≠ 0 → k2 ≠ 0 →
  ((isNum k&&isNum k2)=true→eqlV s (.mk k b n t x l) (.mk k2 b2 n2 t2 x2 l2)=b2i (cmpI (numV k n t) (numV k2 n2 t2)==0)) ∧
  ((isNum k && isNum k2) = false → (if s then aliS k k2 (sameP (.mk k b n t x l) (.mk k2 b2 n2 t2 x2 l2)) = eqlV s (.mk k b n t x l) (.mk k2 b2 n2 t2 x2 l2) else True) ∧
   (if s then True else((k=5∧k2=5→(if l.length=l2.length then eqlL s l l2 else 0)=eqlV s (.mk k b n t x l) (.mk k2 b2 n2 t2 x2 l2)) ∧
    (¬(k=5∧k2=5)→b2i (sameP (.mk k b n t x l) (.mk k2 b2 n2 t2 x2 l2))=eqlV s (.mk k b n t x l) (.mk k2 b2 n2 t2 x2 l2)))))):=by
 rw[eqlV]
 refine⟨fun h=>by rw[if_pos h],fun h1 h2=>?_⟩
 have h0:¬(k=0∨k2=0):=by omega
 rw[if_neg h0]
 refine⟨fun h=>?_,fun h=>?_⟩
 ·rw[if_pos h]
  congr 1
  rw[Bool.eq_iff_iff,decide_eq_true_iff,beq_iff_eq,cmpI_zero]
 ·have hn:¬(isNum k&&isNum k2)=true:=by rw[h];decide
  rw[if_neg hn]
  cases s
  ·simp only[Bool.false_eq_true,if_false]
   refine⟨trivial,fun e=>?_,fun e=>?_⟩
   ·rw[if_pos e]
   ·rw[if_neg e]
  ·simp
def EqlX(N m:Nat)(lang:Int)(sg:Bool):Prop:=∀(w:World) (hE:EnvD w) (k:Int) (b:Bool) (n:Int) (hn:In64 n) (t x:ByteArray) (s:Value) (l:List V) (k2:Int) (bb:Bool) (n2:Int) (hn2:In64 n2) (t2 x2:ByteArray) (s2:Value) (l2:List V),SizeOf.sizeOf l<m→LA w N s l→LA w N s2 l2 →
 Calls Tryz.prog 101 #[.int .i64 lang,agg6 k b n t x s,agg6 k2 bb n2 t2 x2 s2] w fun e w'=>e=.returned (.int .i64 (eqlV sg (.mk k b n t x l) (.mk k2 bb n2 t2 x2 l2)))∧Below w.heap.size w w'
theorem lists_call(N m:Nat)(lang:Int)(sg:Bool)(hN:N≤9223372036854775807)(hs:EqlX N m lang sg)(w:World)(hE:EnvD w)(s s2:Value)(l l2:List V)(hm:SizeOf.sizeOf l≤m)(ha:LA w N s l)(ha2:LA w N s2 l2):
 Calls Tryz.prog 132 #[.int .i64 lang,s,s2] w fun e w'=>e=.returned (.int .i64 (if l.length=l2.length then eqlL sg l l2 else 0))∧Below w.heap.size w w':=by
 cases ha with
 |mk ao cap l hl h=>
 cases ha2 with
 | mk ao2 cap2 l2 hl2 h2 =>
  replace h:=Hd h
  replace h2:=Hd h2
  replace hs:=Hd hs
  replace hE:=Hd hE
  by_cases hne:l.length=l2.length
  ·rw [if_pos hne]
   obtain⟨L,hL⟩:∃L,l.length=L:=⟨_,rfl⟩
   have hL2:l2.length=L:=by omega
   rw[hL,hL2]
   have hLi:(L:Int)≤9223372036854775807:=by omega
   go_enter Tryz.func132,Tryz.ntmps132
   go_wp2
   go_loopw [7,16] (fun v7 v wr=>∃(k:Nat) (a:Int),k≤L∧v=.int .i64 k∧v7=.int .i64 a∧Hid (Acc sg l l2 k a)∧Hid (Below w.heap.size w wr)) (fun _ v _=>L-(intOf v).toNat)
   case atStart=>exact⟨0,1,by omega,rfl,rfl,Acc.start _ _ _,Below.refl _ _⟩
   case round=>
    obtain⟨k,a,hk,rfl,rfl,ha12,hb⟩:=hrel
    obtain⟨w0,rfl⟩:∃w0:World,w0=wr:=⟨_,rfl⟩
    by_cases hlt:k<L
    ·have hki:(k:Int)<(L:Int):=by omega
     have hel:=(h.out k (by omega)).stay hb.out
     have hel2:=(h2.out k (by omega)).stay hb.out
     rw[Nat.mul_comm 6 k]at hel hel2
     have hmem:SizeOf.sizeOf (l[k]'(by omega))<SizeOf.sizeOf l:=List.sizeOf_lt_of_mem (List.getElem_mem _)
     obtain⟨v,hv⟩:∃v,l[k]'(by omega)=v:=⟨_,rfl⟩
     obtain⟨v2,hv2⟩:∃v,l2[k]'(by omega)=v:=⟨_,rfl⟩
     have hps:=Acc.step ha12.out (by omega) (by omega) hv hv2
     have hin:=eqlV_in sg v v2
     rw[hv]at hel hmem
     rw[hv2]at hel2
     clear hv hv2 ha12
     cases hel with
     |mk b off o k1 bo n t x l1 s hr hk1 hn ht hx hsl=>
     cases hel2 with
     | mk b2 off2 o2 k12 bo2 n2 t2 x2 l12 s2 hr2 hk12 hn2 ht2 hx2 hsl2 =>
      have hm1:SizeOf.sizeOf l1<m:=by simp at hmem;omega
      have hdw:Below w0.heap.size w0 w0.drew:=below_drewN (Below.refl _ _) 1
      have hb0:=Hd (hb.out.trans (hdw.mono hb.out.size))
      have hcall:=hs.out w0.drew (hE.out.below hb0.out) k1 bo n hn t x s l1 k12 bo2 n2 hn2 t2 x2 s2 l12 hm1 (hsl.stay hdw) (hsl2.stay hdw)
      unfold agg6 at hcall
      generalize eqlV sg (.mk k1 bo n t x l1) (.mk k12 bo2 n2 t2 x2 l12)=r at hcall hps hin
      replace hcall:=Hd hcall
      replace hps:=Hd hps
      replace hin:=Hd hin
      have hS0:Row6 w0.drew b (off+k * 6) k1 bo n t x s∧Row6 w0.drew b2 (off2+k * 6) k12 bo2 n2 t2 x2 s2:=⟨hr.below hdw,hr2.below hdw⟩
      clear hr hr2 hsl hsl2 hmem hdw
      go_upto_region 7 with fail
      refine wp_region_held_drew (S:=fun V=>Row6 V b (off+k * 6) k1 bo n t x s∧Row6 V b2 (off2+k * 6) k12 bo2 n2 t2 x2 s2) (by kernel_rfl) hS0 (fun hS=>?_)
      have hV:=hS0
      clear hS0
      generalize w0.drew=V0 at *
      refine wpAnyH_take (i:=0) (v:=.int .i64 lang) rfl (by kernel_rfl) (by kernel_rfl) (by kernel_rfl) (fun _ _ _ h=>h) (.inl ⟨by kernel_rfl,fun _ _=>by kernel_rfl⟩) hS ?_;simp only[List.getElem_toArray,List.getElem_cons_succ,List.getElem_cons_zero,Act.put,List.setIfInBounds_toArray,List.set_cons_zero,List.set_cons_succ]
      refine wpAnyH_take (i:=1) (v:=.slice (some ⟨b,off,none⟩) L cap) rfl (by kernel_rfl) (by kernel_rfl) (by kernel_rfl) (fun _ _ _ h=>h) (.inl ⟨by kernel_rfl,fun _ _=>by kernel_rfl⟩) hS ?_;simp only[List.getElem_toArray,List.getElem_cons_succ,List.getElem_cons_zero,Act.put,List.setIfInBounds_toArray,List.set_cons_zero,List.set_cons_succ]
      refine wpAnyH_take (i:=2) (v:=.int .i64 k) rfl (by kernel_rfl) (by kernel_rfl) (by kernel_rfl) (fun _ _ _ h=>h) (.inl ⟨by kernel_rfl,fun _ _=>by kernel_rfl⟩) hS ?_;simp only[List.getElem_toArray,List.getElem_cons_succ,List.getElem_cons_zero,Act.put,List.setIfInBounds_toArray,List.set_cons_zero,List.set_cons_succ]
      refine wpAnyH_take (i:=3) (v:=.pointer (some ⟨b,off+k * 6,none⟩)) rfl (by kernel_rfl) (by kernel_rfl) (by kernel_rfl) (fun _ _ _ h=>h) (.inl ⟨by kernel_rfl,fun w' hS=>by go_simp;try exact⟨rfl,rfl,rfl⟩⟩) hS ?_;simp only[List.getElem_toArray,List.getElem_cons_succ,List.getElem_cons_zero,Act.put,List.setIfInBounds_toArray,List.set_cons_zero,List.set_cons_succ]
      refine wpAnyH_take (i:=4) (v:=.agg #[.int .i64 k1,.bool bo,.int .i64 n,.string t,.string x,s]) rfl (by kernel_rfl) (by kernel_rfl) (by kernel_rfl) (fun _ _ _ h=>h) (.inl ⟨by kernel_rfl,fun w' hS=>by have x0:=hS.1.c0;have x1:=hS.1.c1;have x2:=hS.1.c2;have x3:=hS.1.c3;have x4:=hS.1.c4;have x5:=hS.1.c5;go_simp;try exact⟨rfl,rfl,rfl⟩⟩) hS ?_;simp only[List.getElem_toArray,List.getElem_cons_succ,List.getElem_cons_zero,Act.put,List.setIfInBounds_toArray,List.set_cons_zero,List.set_cons_succ]
      refine wpAnyH_take (i:=5) (v:=.slice (some ⟨b2,off2,none⟩) L cap2) rfl (by kernel_rfl) (by kernel_rfl) (by kernel_rfl) (fun _ _ _ h=>h) (.inl ⟨by kernel_rfl,fun _ _=>by kernel_rfl⟩) hS ?_;simp only[List.getElem_toArray,List.getElem_cons_succ,List.getElem_cons_zero,Act.put,List.setIfInBounds_toArray,List.set_cons_zero,List.set_cons_succ]
      refine wpAnyH_take (i:=6) (v:=.int .i64 k) rfl (by kernel_rfl) (by kernel_rfl) (by kernel_rfl) (fun _ _ _ h=>h) (.inl ⟨by kernel_rfl,fun _ _=>by kernel_rfl⟩) hS ?_;simp only[List.getElem_toArray,List.getElem_cons_succ,List.getElem_cons_zero,Act.put,List.setIfInBounds_toArray,List.set_cons_zero,List.set_cons_succ]
      refine wpAnyH_take (i:=7) (v:=.pointer (some ⟨b2,off2+k * 6,none⟩)) rfl (by kernel_rfl) (by kernel_rfl) (by kernel_rfl) (fun _ _ _ h=>h) (.inl ⟨by kernel_rfl,fun w' hS=>by go_simp;try exact⟨rfl,rfl,rfl⟩⟩) hS ?_;simp only[List.getElem_toArray,List.getElem_cons_succ,List.getElem_cons_zero,Act.put,List.setIfInBounds_toArray,List.set_cons_zero,List.set_cons_succ]
      refine wpAnyH_take (i:=8) (v:=.agg #[.int .i64 k12,.bool bo2,.int .i64 n2,.string t2,.string x2,s2]) rfl (by kernel_rfl) (by kernel_rfl) (by kernel_rfl) (fun _ _ _ h=>h) (.inl ⟨by kernel_rfl,fun w' hS=>by have x0:=hS.2.c0;have x1:=hS.2.c1;have x2:=hS.2.c2;have x3:=hS.2.c3;have x4:=hS.2.c4;have x5:=hS.2.c5;go_simp;try exact⟨rfl,rfl,rfl⟩⟩) hS ?_;simp only[List.getElem_toArray,List.getElem_cons_succ,List.getElem_cons_zero,Act.put,List.setIfInBounds_toArray,List.set_cons_zero,List.set_cons_succ]
      refine wpAnyH_ready (rs:=[9]) (by kernel_rfl) (by simp) ?_
      refine AllReadyH.cons rfl (fun K hK=>?_) AllReadyH.nil
      clear hS
      go_simp
      refine(hcall.out).mono ?_
      rintro e w5 ⟨rfl,hb5⟩
      go_wp2_with fail
      refine hKo hK (⟨hV.1.below hb5,hV.2.below hb5⟩) (fun hS=>?_)
      clear hK K
      have hb3:=Hd (hb0.out.trans (hb5.mono hb0.out.size))
      refine wpAnyH_done (by kernel_rfl) ?_ _
      clear hS hb5 hcall hV hb0 hb
      replace hin:=hin.out
      rcases hin with rfl|rfl|rfl
      ·go_wp2
       go_ret
       exact⟨ret_int (hps.out.1 (by simp)).symm,hb3.out⟩
      ·go_wp2
       go_roundw
       case rel=>exact⟨k+1,a,by omega,by go_num,rfl,hps.out.2.1 (by simp),hb3⟩
       case measure=>simp[intOf];omega
      ·go_wp2
       go_roundw
       case rel=>exact⟨k+1,2,by omega,by go_num,rfl,hps.out.2.2 (by simp),hb3⟩
       case measure=>simp[intOf];omega
    ·have hki:¬(k:Int)<(L:Int):=by omega
     obtain rfl:k=L:=by omega
     go_wp2
     go_ret
     exact⟨ret_int ((ha12.out).end (by omega) (by omega)).symm,hb.out⟩
  ·rw[if_neg hne]
   have hnei:((l.length:Int) != (l2.length:Int))=true:=bne_iff_ne.2 (by omega)
   go_enter Tryz.func132,Tryz.ntmps132
   go_wp2
   go_ret
   exact⟨rfl,Below.refl _ _⟩
theorem equal_allX(N:Nat)(hN:N≤9223372036854775807)(lang:Int):∀m,EqlX N m lang (decide (lang=1)):=by
 intro m
 induction m with
 |zero=>intro w hE k b n hn t x s l k2 bb n2 hn2 t2 x2 s2 l2 hm;omega
 | succ m ih =>
  intro w hE k b n hn t x s l k2 bb n2 hn2 t2 x2 s2 l2 hm ha ha2
  have h2:=B2.made w (c6 k b n t x s) (c6 k2 bb n2 t2 x2 s2)
  have hlists:∀W,Below w.heap.size w W→Calls Tryz.prog 132 #[.int .i64 lang,s,s2] W fun e w'=>e=.returned (.int .i64 (if l.length=l2.length then eqlL (decide (lang=1)) l l2 else 0))∧Below W.heap.size W w':=fun W hb=>lists_call N m lang _ hN ih W (hE.below hb) s s2 l l2 (by omega) (ha.stay hb) (ha2.stay hb)
  have hsame:∀W,Below w.heap.size w W→Calls Tryz.prog 77 #[agg6 k b n t x s,agg6 k2 bb n2 t2 x2 s2] W fun e w'=>e=.returned (.bool (sameP (.mk k b n t x l) (.mk k2 bb n2 t2 x2 l2)))∧Below W.heap.size W w':=fun W hb=>same_call N hN W k b n t x s l k2 bb n2 t2 x2 s2 l2 (ha.stay hb) (ha2.stay hb)
  have hali:∀W,Below w.heap.size w W→Calls Tryz.prog 131 #[agg6 k b n t x s,agg6 k2 bb n2 t2 x2 s2] W fun e w'=>e=.returned (.int .i64 (aliS k k2 (sameP (.mk k b n t x l) (.mk k2 bb n2 t2 x2 l2))))∧Below W.heap.size W w':=fun W hb=>alike_call N hN W k b n t x s l k2 bb n2 t2 x2 s2 l2 (ha.stay hb) (ha2.stay hb)
  have hcmp:∀W,Below w.heap.size w W→Calls Tryz.prog 104 #[agg6 k b n t x s,agg6 k2 bb n2 t2 x2 s2] W fun e w'=>e=.returned (.int .i64 (cmpI (numV k n t) (numV k2 n2 t2)))∧Below W.heap.size W w':=fun W hb=>compare_call k b n hn t x s k2 bb n2 hn2 t2 x2 s2 W (hE.below hb)
  have hnum:∀W,Calls Tryz.prog 68 #[agg6 k b n t x s] W fun e w'=>e=.returned (.bool (decide (k=2∨k=3)))∧Below W.heap.size W w':=fun W=>number_any k b n t x s W
  have hnum2:∀W,Calls Tryz.prog 68 #[agg6 k2 bb n2 t2 x2 s2] W fun e w'=>e=.returned (.bool (decide (k2=2∨k2=3)))∧Below W.heap.size W w':=fun W=>number_any k2 bb n2 t2 x2 s2 W
  clear ha ha2 ih
  have hEQ:=eql_facts (decide (lang=1)) k b n t x l k2 bb n2 t2 x2 l2
  generalize eqlV (decide (lang=1)) (.mk k b n t x l) (.mk k2 bb n2 t2 x2 l2)=R at *
  generalize (if l.length=l2.length then eqlL (decide (lang=1)) l l2 else 0)=RL at *
  generalize sameP (.mk k b n t x l) (.mk k2 bb n2 t2 x2 l2)=RS at *
  generalize aliS k k2 RS=RA at *
  generalize numV k n t=Z1 at *
  generalize numV k2 n2 t2=Z2 at *
  unfold isNum at hEQ
  unfold agg6 at hsame hcmp hnum hnum2 hali ⊢
  replace hali:=Hd hali
  unfold c6 at h2
  replace hlists:=Hd hlists
  replace hsame:=Hd hsame
  replace hcmp:=Hd hcmp
  obtain⟨p,hp⟩:∃p,decide (k=2∨k=3)=p:=⟨_,rfl⟩
  obtain⟨p2,hp2⟩:∃p,decide (k2=2∨k2=3)=p:=⟨_,rfl⟩
  rw[hp]at hnum
  rw[hp2]at hnum2
  rw[hp,hp2]at hEQ
  clear hp hp2
  replace hEQ:=Hd hEQ
  replace hnum:=Hd hnum
  replace hnum2:=Hd hnum2
  by_cases hk0:k=0
  ·subst hk0
   go_enter Tryz.func101,Tryz.ntmps101
   go_wp2
   go_ret
   exact⟨ret_int (hEQ.out.1 (by simp)).symm,h2.below⟩
  have hk0b:(k==0)=false:=beq_eq_false_iff_ne.2 hk0
  by_cases hk20:k2=0
  ·subst hk20
   go_enter Tryz.func101,Tryz.ntmps101
   go_wp2
   go_ret
   exact⟨ret_int (hEQ.out.1 (by simp)).symm,h2.below⟩
  have hk20b:(k2==0)=false:=beq_eq_false_iff_ne.2 hk20
  have hEQ:=Hd (hEQ.out.2 hk0 hk20)
  clear hk0 hk20
  go_enter Tryz.func101,Tryz.ntmps101
  go_wp2_with fail
  refine(hnum.out _).mono ?_
  rintro e w3 ⟨rfl,hb3⟩
  have h3:=h2.on hb3
  clear h2 hb3
  have x0:=h3.b0.cell 0 rfl
  have x1:=h3.b0.cell 1 rfl
  have x2':=h3.b0.cell 2 rfl
  have x3:=h3.b0.cell 3 rfl
  have x4:=h3.b0.cell 4 rfl
  have x5:=h3.b0.cell 5 rfl
  have y0:=h3.b1.cell 0 rfl
  have y1:=h3.b1.cell 1 rfl
  have y2:=h3.b1.cell 2 rfl
  have y3:=h3.b1.cell 3 rfl
  have y4:=h3.b1.cell 4 rfl
  have y5:=h3.b1.cell 5 rfl
  replace h3:=Hd h3
  cases p
  ·have hR:=Hd (hEQ.out.2 rfl)
   by_cases hl1:lang=1
   ·subst hl1
    go_wp2_with fail
    refine(hali.out _ h3.out.below).mono ?_
    rintro e w8 ⟨rfl,hb8⟩
    have hb9:=Hd (h3.out.below.trans (hb8.mono h3.out.below.size))
    clear hb8
    go_wp2
    go_ret
    exact⟨ret_int hR.out.1,hb9.out⟩
   ·have hl1b:(lang==1)=false:=beq_eq_false_iff_ne.2 hl1
    rw[decide_eq_false hl1]at hR
    clear hl1
    by_cases hl5:k=5∧k2=5
    ·obtain⟨rfl,rfl⟩:=hl5
     go_wp2_with fail
     refine(hlists.out _ h3.out.below).mono ?_
     rintro e w8 ⟨rfl,hb8⟩
     have hb9:=Hd (h3.out.below.trans (hb8.mono h3.out.below.size))
     clear hb8
     go_wp2
     go_ret
     exact⟨ret_int (hR.out.2.1 (by simp)),hb9.out⟩
    ·obtain⟨q5,hq5⟩:∃q:Bool,(k==5)=q:=⟨_,rfl⟩
     obtain⟨q6,hq6⟩:∃q:Bool,(k2==5)=q:=⟨_,rfl⟩
     have hqq:(q5&&q6)=false:=by
      rw[←hq5,←hq6]
      apply Bool.eq_false_iff.2
      intro h
      rw[Bool.and_eq_true,beq_iff_eq,beq_iff_eq]at h
      exact hl5 h
     have hR2:=Hd (hR.out.2.2 hl5)
     clear hl5 hR
     cases q5
     ·clear hqq
      go_wp2_with fail
      refine(hsame.out _ h3.out.below).mono ?_
      rintro e w8 ⟨rfl,hb8⟩
      have hb9:=Hd (h3.out.below.trans (hb8.mono h3.out.below.size))
      clear hb8
      go_wp2_with (go_at_call 103;refine(truth_b _ _).mono ?_;rintro e w9 ⟨rfl,hw9⟩;rw[hw9];clear hw9)
      go_ret
      exact⟨ret_int hR2.out,hb9.out⟩
     ·obtain rfl:q6=false:=by simpa using hqq
      go_wp2_with fail
      refine(hsame.out _ h3.out.below).mono ?_
      rintro e w8 ⟨rfl,hb8⟩
      have hb9:=Hd (h3.out.below.trans (hb8.mono h3.out.below.size))
      clear hb8
      go_wp2_with (go_at_call 103;refine(truth_b _ _).mono ?_;rintro e w9 ⟨rfl,hw9⟩;rw[hw9];clear hw9)
      go_ret
      exact⟨ret_int hR2.out,hb9.out⟩
  ·go_wp2_with fail
   refine(hnum2.out _).mono ?_
   rintro e w4 ⟨rfl,hb4⟩
   have h4:=h3.out.on hb4
   clear h3 hb4 x0 x1 x2' x3 x4 x5 y0 y1 y2 y3 y4 y5
   have x0:=h4.b0.cell 0 rfl
   have x1:=h4.b0.cell 1 rfl
   have x2':=h4.b0.cell 2 rfl
   have x3:=h4.b0.cell 3 rfl
   have x4:=h4.b0.cell 4 rfl
   have x5:=h4.b0.cell 5 rfl
   have y0:=h4.b1.cell 0 rfl
   have y1:=h4.b1.cell 1 rfl
   have y2:=h4.b1.cell 2 rfl
   have y3:=h4.b1.cell 3 rfl
   have y4:=h4.b1.cell 4 rfl
   have y5:=h4.b1.cell 5 rfl
   replace h4:=Hd h4
   cases p2
   ·have hR:=Hd (hEQ.out.2 rfl)
    by_cases hl1:lang=1
    ·subst hl1
     go_wp2_with fail
     refine(hali.out _ h4.out.below).mono ?_
     rintro e w8 ⟨rfl,hb8⟩
     have hb9:=Hd (h4.out.below.trans (hb8.mono h4.out.below.size))
     clear hb8
     go_wp2
     go_ret
     exact⟨ret_int hR.out.1,hb9.out⟩
    ·have hl1b:(lang==1)=false:=beq_eq_false_iff_ne.2 hl1
     rw[decide_eq_false hl1]at hR
     clear hl1
     by_cases hl5:k=5∧k2=5
     ·obtain⟨rfl,rfl⟩:=hl5
      go_wp2_with fail
      refine(hlists.out _ h4.out.below).mono ?_
      rintro e w8 ⟨rfl,hb8⟩
      have hb9:=Hd (h4.out.below.trans (hb8.mono h4.out.below.size))
      clear hb8
      go_wp2
      go_ret
      exact⟨ret_int (hR.out.2.1 (by simp)),hb9.out⟩
     ·obtain⟨q5,hq5⟩:∃q:Bool,(k==5)=q:=⟨_,rfl⟩
      obtain⟨q6,hq6⟩:∃q:Bool,(k2==5)=q:=⟨_,rfl⟩
      have hqq:(q5&&q6)=false:=by
       rw[←hq5,←hq6]
       apply Bool.eq_false_iff.2
       intro h
       rw[Bool.and_eq_true,beq_iff_eq,beq_iff_eq]at h
       exact hl5 h
      have hR2:=Hd (hR.out.2.2 hl5)
      clear hl5 hR
      cases q5
      ·clear hqq
       go_wp2_with fail
       refine(hsame.out _ h4.out.below).mono ?_
       rintro e w8 ⟨rfl,hb8⟩
       have hb9:=Hd (h4.out.below.trans (hb8.mono h4.out.below.size))
       clear hb8
       go_wp2_with (go_at_call 103;refine(truth_b _ _).mono ?_;rintro e w9 ⟨rfl,hw9⟩;rw[hw9];clear hw9)
       go_ret
       exact⟨ret_int hR2.out,hb9.out⟩
      ·obtain rfl:q6=false:=by simpa using hqq
       go_wp2_with fail
       refine(hsame.out _ h4.out.below).mono ?_
       rintro e w8 ⟨rfl,hb8⟩
       have hb9:=Hd (h4.out.below.trans (hb8.mono h4.out.below.size))
       clear hb8
       go_wp2_with (go_at_call 103;refine(truth_b _ _).mono ?_;rintro e w9 ⟨rfl,hw9⟩;rw[hw9];clear hw9)
       go_ret
       exact⟨ret_int hR2.out,hb9.out⟩
   ·have hR:=Hd (hEQ.out.1 rfl)
    go_wp2_with fail
    refine(hcmp.out _ h4.out.below).mono ?_
    rintro e w5 ⟨rfl,hb5⟩
    have hb6:=Hd (h4.out.below.trans (hb5.mono h4.out.below.size))
    clear hb5
    obtain⟨c,hc⟩:∃c,(cmpI Z1 Z2==0)=c:=⟨_,rfl⟩
    have hc2:=Hd hc
    generalize cmpI Z1 Z2=Q at *
    go_wp2_with (go_at_call 103;refine(truth_b _ _).mono ?_;rintro e w9 ⟨rfl,hw9⟩;rw[hw9];clear hw9)
    go_ret
    exact⟨ret_int (by rw[hR.out,←hc2.out]),hb6.out⟩
end Go.Proofs.YtcaeipdgbaligaaGreatDoor.val
