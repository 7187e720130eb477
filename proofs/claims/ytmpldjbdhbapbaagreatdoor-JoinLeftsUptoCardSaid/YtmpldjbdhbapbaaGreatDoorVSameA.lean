/- Texts VP0, ValB2, VKit0, VSame, one behind the other. -/
import Derived.Test.YtmpldjbdhbapbaaGreatDoorValChk
set_option linter.unusedSimpArgs false
set_option linter.unusedVariables false
set_option maxRecDepth 100000
set_option maxHeartbeats 1000000
namespace Go.Proofs.YtmpldjbdhbapbaaGreatDoor.val
open Go.RowKit dec
theorem toList_inj{a b:ByteArray}(h:a.toList=b.toList):a=b:=by
 rw[Go.ByteArray.toList_eq,Go.ByteArray.toList_eq]at h
 exact ba_ext h
mutual
def sameP:V→V→Bool
 |.mk k b n t x l,.mk k2 b2 n2 t2 x2 l2=>decide (k=k2)&&(decide (b=b2)&&(decide (n=n2)&&(decide (t.data.toList=t2.data.toList)&&(decide (x.data.toList=x2.data.toList)&&sameL l l2))))
def sameL:List V→List V→Bool
 |[],[]=>true
 |[],_::_=>false
 |_::_,[]=>false
 |v::l,u::m=>sameP v u&&sameL l m
end
mutual
theorem sameP_iff:∀v u:V,sameP v u=true↔v=u
 |.mk k b n t x l,.mk k2 b2 n2 t2 x2 l2=>by
  rw[sameP]
  simp only[Bool.and_eq_true,decide_eq_true_eq,sameL_iff l l2,V.mk.injEq]
  constructor
  ·rintro⟨h1,h2,h3,h4,h5,h6⟩;exact⟨h1,h2,h3,ba_ext h4,ba_ext h5,h6⟩
  ·rintro⟨h1,h2,h3,h4,h5,h6⟩;exact⟨h1,h2,h3,by rw[h4],by rw[h5],h6⟩
theorem sameL_iff:∀l m:List V,sameL l m=true↔l=m
 |[],[]=>by rw[sameL];simp
 |[],_::_=>by rw[sameL];simp
 |_::_,[]=>by rw[sameL];simp
 |v::l,u::m=>by rw[sameL,Bool.and_eq_true,sameP_iff v u,sameL_iff l m];simp
end
def kindV:V→Int|.mk k _ _ _ _ _=>k
mutual
def sizeV:V→Nat
 |.mk _ _ _ t x l=>1+t.size / 64+x.size / 64+sizeL l
def sizeL:List V→Nat
 |[]=>0
 |v::r=>sizeV v+sizeL r
end
theorem sameP_self(v:V):sameP v v=true:=(sameP_iff v v).2 rfl
open Go.ChangeShapes Go.WideShapes Go.ChangeAt Go.RowKit kit dec
def c6(k:Int)(b:Bool)(n:Int)(t x:ByteArray)(s:Value):Array Value:=#[.int .i64 k,.bool b,.int .i64 n,.string t,.string x,s]
structure B2(w W:World)(c d:Array Value):Prop where
 below:Below w.heap.size w W
 b0:Blk W w.heap.size c 34
 b1:Blk W (w.heap.size+1) d 34
theorem B2.made(w:World)(c d:Array Value):B2 w ((w.alloc (.cells c 34)).alloc (.cells d 34)) c d:=by
 refine⟨(((Keep.refl [] w).alloc _).alloc _).below,(Blk.new _ _ _).alloc _,?_⟩
 have:=Blk.new (w.alloc (.cells c 34)) d 34
 rwa [World.size_alloc]at this
theorem B2.on{w W W':World}{c d:Array Value}(h:B2 w W c d)(hb:Below W.heap.size W W'):B2 w W' c d:=⟨h.below.trans (hb.mono h.below.size),h.b0.keep (Keep.ofBelow hb) (by simp),h.b1.keep (Keep.ofBelow hb) (by simp)⟩
open Go.ChangeShapes Go.WideShapes Go.ChangeAt Go.RowKit kit dec
theorem Row6.six{w:World}{b o:Nat}{k:Int}{bo:Bool}{n:Int}{t x:ByteArray}{s:Value}(h:Row6 w b o k bo n t x s):
 w.cell? ⟨b,o,none⟩=some (.int .i64 k)∧w.cell? ⟨b,o+1,none⟩=some (.bool bo)∧w.cell? ⟨b,o+2,none⟩=some (.int .i64 n)∧w.cell? ⟨b,o+3,none⟩=some (.string t)∧w.cell? ⟨b,o+4,none⟩=some (.string x)∧w.cell? ⟨b,o+5,none⟩=some s:=
 ⟨h.c0,h.c1,h.c2,h.c3,h.c4,h.c5⟩
theorem sizeL_take(l:List V)(k:Nat)(h:k<l.length):sizeL (l.take (k+1))=sizeL (l.take k)+sizeV l[k]:=by
 induction l generalizing k with
 |nil=>simp at h
 | cons v r ih =>
  cases k with
  |zero=>simp[sizeL]
  |succ k=>
   rw[List.take_succ_cons,List.take_succ_cons,sizeL,sizeL,ih k (by simpa using h)]
   simp
   omega
theorem sizeL_take_le(l:List V)(k:Nat):sizeL (l.take k)≤sizeL l:=by
 induction l generalizing k with
 |nil=>simp[sizeL]
 |cons v r ih=>
  cases k with
  |zero=>simp[sizeL]
  |succ k=>rw[List.take_succ_cons,sizeL,sizeL];have:=ih k;omega
theorem LA.form6{w:World}{N:Nat}{s:Value}{l:List V}(h:LA w N s l):∃ao cap,s=.slice ao l.length cap:=by
 cases h with
 |mk ao cap l hl h=>exact⟨ao,cap,rfl⟩
open Go.ChangeShapes Go.WideShapes Go.ChangeAt Go.RowKit kit dec
theorem sameL_no{l m:List V}(h:l≠m):sameL l m=false:=by
 apply Bool.eq_false_iff.2
 intro e
 exact h ((sameL_iff l m).1 e)
theorem sameP_no{l m:V}(h:l≠m):sameP l m=false:=by
 apply Bool.eq_false_iff.2
 intro e
 exact h ((sameP_iff l m).1 e)
theorem sameP_list(k:Int)(b:Bool)(n:Int)(t x:ByteArray)(l m:List V):sameP (.mk k b n t x l) (.mk k b n t x m)=sameL l m:=by
 rw[Bool.eq_iff_iff,sameP_iff,sameL_iff]
 constructor
 ·intro h;injection h
 ·rintro rfl;rfl
theorem LA.form{w:World}{N:Nat}{s:Value}{l:List V}(h:LA w N s l):∃ao cap,s=.slice ao l.length cap:=by
 cases h with
 |mk ao cap l hl h=>exact⟨ao,cap,rfl⟩
def Pre(l m:List V)(k:Nat):Prop:=∀j (h1:j<l.length) (h2:j<m.length),j<k→l[j]=m[j]
theorem Pre.end{l m:List V}(h:Pre l m l.length)(hl:l.length=m.length):sameL l m=true:=by
 rw[sameL_iff]
 exact List.ext_getElem hl fun j h1 h2=>h j h1 h2 h1
theorem Pre.step{l m:List V}{k:Nat}(h:Pre l m k)(h1:k<l.length)(h2:k<m.length){v u:V}(hv:l[k]=v)(hu:m[k]=u):(sameP v u=false→sameL l m=false)∧(sameP v u=true→Pre l m (k+1)):=by
 constructor
 ·intro e
  apply sameL_no
  rintro rfl
  rw[hv]at hu
  subst hu
  rw[sameP_self]at e
  cases e
 ·intro e j j1 j2 hj
  rcases Nat.lt_or_ge j k with h3|h3
  ·exact h j j1 j2 h3
  ·obtain rfl:j=k:=by omega
   rw[hv,hu]
   exact(sameP_iff v u).1 e
def SmeX(N m:Nat):Prop:=∀(w:World) (k:Int) (b:Bool) (n:Int) (t x:ByteArray) (s:Value) (l:List V) (k2:Int) (bb:Bool) (n2:Int) (t2 x2:ByteArray) (s2:Value) (l2:List V),SizeOf.sizeOf l<m→LA w N s l→LA w N s2 l2 →
 Calls Tryz.prog 60 #[agg6 k b n t x s,agg6 k2 bb n2 t2 x2 s2] w fun e w'=>e=.returned (.bool (sameP (.mk k b n t x l) (.mk k2 bb n2 t2 x2 l2)))∧Below w.heap.size w w'
theorem equalFuncX(N m:Nat)(hN:N≤9223372036854775807)(hs:SmeX N m)(w:World)(s s2:Value)(l l2:List V)(hm:SizeOf.sizeOf l≤m)(ha:LA w N s l)(ha2:LA w N s2 l2):
 Calls Tryz.prog 75 #[s,s2,.func (.func 60) #[] #[]] w fun e w'=>e=.returned (.bool (sameL l l2))∧Below w.heap.size w w':=by
 cases ha with
 |mk ao cap l hl h=>
 cases ha2 with
 | mk ao2 cap2 l2 hl2 h2 =>
  replace h:=Hd h
  replace h2:=Hd h2
  replace hs:=Hd hs
  by_cases hne:l.length=l2.length
  ·obtain⟨L,hL⟩:∃L,l.length=L:=⟨_,rfl⟩
   have hL2:l2.length=L:=by omega
   rw[hL,hL2]
   have hLi:(L:Int)≤9223372036854775807:=by omega
   go_enter Tryz.func75,Tryz.ntmps75
   go_wp2
   go_loopw [17] (fun v wr=>∃k:Nat,k≤L∧v=.int .i64 k∧Hid (Below w.heap.size w wr)∧Hid (Pre l l2 k)) (fun v _=>L-(intOf v).toNat)
   case atStart=>exact⟨0,by omega,rfl,Below.refl _ _,fun j _ _ h=>by omega⟩
   case round=>
    obtain⟨k,hk,rfl,hb,hpre⟩:=hrel
    by_cases hlt:k<L
    ·have hki:(k:Int)<(L:Int):=by omega
     have hel:=(h.out k (by omega)).stay hb.out
     have hel2:=(h2.out k (by omega)).stay hb.out
     rw[Nat.mul_comm 6 k]at hel hel2
     have hmem:SizeOf.sizeOf (l[k]'(by omega))<SizeOf.sizeOf l:=List.sizeOf_lt_of_mem (List.getElem_mem _)
     obtain⟨v,hv⟩:∃v,l[k]'(by omega)=v:=⟨_,rfl⟩
     obtain⟨v2,hv2⟩:∃v,l2[k]'(by omega)=v:=⟨_,rfl⟩
     have hps:=Pre.step hpre.out (by omega) (by omega) hv hv2
     rw[hv]at hel hmem
     rw[hv2]at hel2
     clear hv hv2 hpre
     cases hel with
     |mk b off o k1 bo n t x l1 s hr hk1 hn ht hx hsl=>
     cases hel2 with
     | mk b2 off2 o2 k12 bo2 n2 t2 x2 l12 s2 hr2 hk12 hn2 ht2 hx2 hsl2 =>
      obtain⟨aoE,capE,rfl⟩:=LA.form hsl
      obtain⟨aoF,capF,rfl⟩:=LA.form hsl2
      have hm1:SizeOf.sizeOf l1<m:=by simp at hmem;omega
      have x0:=hr.c0
      have x1:=hr.c1
      have x2c:=hr.c2
      have x3:=hr.c3
      have x4:=hr.c4
      have x5:=hr.c5
      have y0:=hr2.c0
      have y1:=hr2.c1
      have y2:=hr2.c2
      have y3:=hr2.c3
      have y4:=hr2.c4
      have y5:=hr2.c5
      have hb1:Below wr.heap.size wr (wr.alloc (.cells #[.int .i64 k1,.bool bo,.int .i64 n,.string t,.string x,.slice aoE l1.length capE] 34)):=(Below.refl _ _).alloc (Nat.le_refl _) _
      have hr2':=hr2.below hb1
      have y0':=hr2'.c0
      have y1':=hr2'.c1
      have y2':=hr2'.c2
      have y3':=hr2'.c3
      have y4':=hr2'.c4
      have y5':=hr2'.c5
      have hbb:Below wr.heap.size wr ((wr.alloc (.cells #[.int .i64 k1,.bool bo,.int .i64 n,.string t,.string x,.slice aoE l1.length capE] 34)).alloc (.cells #[.int .i64 k12,.bool bo2,.int .i64 n2,.string t2,.string x2,.slice aoF l12.length capF] 34)):=hb1.alloc hb1.size _
      have hcall:=hs.out _ k1 bo n t x _ l1 k12 bo2 n2 t2 x2 _ l12 hm1 (hsl.stay hbb) (hsl2.stay hbb)
      unfold agg6 at hcall
      generalize sameP (.mk k1 bo n t x l1) (.mk k12 bo2 n2 t2 x2 l12)=c at hcall hps
      replace hcall:=Hd hcall
      replace hps:=Hd hps
      clear hr hr2 hr2' hsl hsl2 hmem
      go_wp2_with fail
      refine hcall.out.mono ?_
      rintro e w2 ⟨rfl,hb2⟩
      have hb3:=Hd (hb.out.trans ((hbb.trans (hb2.mono hbb.size)).mono hb.out.size))
      clear hb2 hcall hbb hb1
      cases c
      ·go_wp2
       go_ret
       exact⟨ret_bool (hps.out.1 (by simp)).symm,hb3.out⟩
      ·go_wp2
       go_roundw
       case rel=>exact⟨k+1,by omega,by go_num,hb3,hps.out.2 (by simp)⟩
       case measure=>simp[intOf];omega
    ·have hki:¬(k:Int)<(L:Int):=by omega
     obtain rfl:k=L:=by omega
     go_wp2
     go_ret
     exact⟨ret_bool ((hL ▸ hpre.out:Pre l l2 l.length).end hne).symm,hb.out⟩
  ·have hnei:((l.length:Int) != (l2.length:Int))=true:=bne_iff_ne.2 (by omega)
   go_enter Tryz.func75,Tryz.ntmps75
   go_wp2
   go_ret
   exact⟨ret_bool (sameL_no (fun e=>hne (by rw[e]))).symm,Below.refl _ _⟩
theorem same_allX(N:Nat)(hN:N≤9223372036854775807):∀m,SmeX N m:=by
 intro m
 induction m with
 |zero=>intro w k b n t x s l k2 bb n2 t2 x2 s2 l2 hm;omega
 | succ m ih =>
  intro w k b n t x s l k2 bb n2 t2 x2 s2 l2 hm ha ha2
  have h2:=B2.made w (c6 k b n t x s) (c6 k2 bb n2 t2 x2 s2)
  have hcall:=equalFuncX N m hN ih _ s s2 l l2 (by omega) (ha.stay h2.below) (ha2.stay h2.below)
  unfold c6 at h2 hcall
  unfold agg6
  have hbe:=Hd h2.below
  clear h2 ha ha2 ih
  replace hcall:=Hd hcall
  by_cases e1:k=k2
  case neg=>
   have q1:(k==k2)=false:=beq_eq_false_iff_ne.2 e1
   have hno:=Hd (sameP_no (fun h=>by injection h;exact e1 ‹_›):sameP (.mk k b n t x l) (.mk k2 bb n2 t2 x2 l2)=false)
   go_enter Tryz.func60,Tryz.ntmps60
   go_wp2;go_ret;exact⟨ret_bool hno.out.symm,hbe.out⟩
  subst e1
  by_cases e2:b=bb
  case neg=>
   have q2:(b==bb)=false:=beq_eq_false_iff_ne.2 e2
   have hno:=Hd (sameP_no (fun h=>by injection h;exact e2 ‹_›):sameP (.mk k b n t x l) (.mk k bb n2 t2 x2 l2)=false)
   go_enter Tryz.func60,Tryz.ntmps60
   go_wp2;go_ret;exact⟨ret_bool hno.out.symm,hbe.out⟩
  subst e2
  by_cases e3:n=n2
  case neg=>
   have q3:(n==n2)=false:=beq_eq_false_iff_ne.2 e3
   have hno:=Hd (sameP_no (fun h=>by injection h;exact e3 ‹_›):sameP (.mk k b n t x l) (.mk k b n2 t2 x2 l2)=false)
   go_enter Tryz.func60,Tryz.ntmps60
   go_wp2;go_ret;exact⟨ret_bool hno.out.symm,hbe.out⟩
  subst e3
  cases e4:(t.toList==t2.toList)
  case false=>
   have hno:=Hd (sameP_no (fun h=>by injection h with _ _ _ h4;rw[h4]at e4;simp at e4):sameP (.mk k b n t x l) (.mk k b n t2 x2 l2)=false)
   go_enter Tryz.func60,Tryz.ntmps60
   go_wp2;go_ret;exact⟨ret_bool hno.out.symm,hbe.out⟩
  cases e5:(x.toList==x2.toList)
  case false=>
   have hno:=Hd (sameP_no (fun h=>by injection h with _ _ _ _ h5;rw[h5]at e5;simp at e5):sameP (.mk k b n t x l) (.mk k b n t2 x2 l2)=false)
   go_enter Tryz.func60,Tryz.ntmps60
   go_wp2;go_ret;exact⟨ret_bool hno.out.symm,hbe.out⟩
  go_enter Tryz.func60,Tryz.ntmps60
  go_wp2_with (go_at_call 75;refine hcall.out.mono ?_;rintro e w2 ⟨rfl,hb2⟩)
  go_ret
  have ht:=toList_inj (beq_iff_eq.1 e4)
  have hx:=toList_inj (beq_iff_eq.1 e5)
  exact⟨ret_bool (by rw[ht,hx,sameP_list]),hbe.out.trans (hb2.mono hbe.out.size)⟩
theorem same_call(N:Nat)(hN:N≤9223372036854775807)(w:World)(k:Int)(b:Bool)(n:Int)(t x:ByteArray)(s:Value)(l:List V)(k2:Int)(bb:Bool)(n2:Int)(t2 x2:ByteArray)(s2:Value)(l2:List V)(ha:LA w N s l)(ha2:LA w N s2 l2):
 Calls Tryz.prog 60 #[agg6 k b n t x s,agg6 k2 bb n2 t2 x2 s2] w fun e w'=>e=.returned (.bool (sameP (.mk k b n t x l) (.mk k2 bb n2 t2 x2 l2)))∧Below w.heap.size w w':=
 same_allX N hN (SizeOf.sizeOf l+1) w k b n t x s l k2 bb n2 t2 x2 s2 l2 (Nat.lt_succ_self _) ha ha2
end Go.Proofs.YtmpldjbdhbapbaaGreatDoor.val
