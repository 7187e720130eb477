/- Texts VPlain, SortA, one behind the other. -/
import Derived.Test.YtidplkfhodpdhaaGreatDoorDecC
import Derived.Test.YtidplkfhodpdhaaGreatDoorTabPA
set_option linter.unusedSimpArgs false
set_option linter.unusedVariables false
namespace Go.Proofs.YtidplkfhodpdhaaGreatDoor.val
open Go.RowKit dec
theorem bl_irr:∀a:List UInt8,Op.bytesLess a a=false
 |[]=>rfl
 |a::r=>by simp[Op.bytesLess,bl_irr r]
theorem bl_tri:∀a b:List UInt8,Op.bytesLess a b=true∨a=b∨Op.bytesLess b a=true
 |[],[]=>.inr (.inl rfl)
 |[],b::s=>.inl rfl
 |a::r,[]=>.inr (.inr rfl)
 | a :: r, b :: s => by
  simp only[Op.bytesLess,Bool.or_eq_true,Bool.and_eq_true,decide_eq_true_eq,beq_iff_eq]
  rcases bl_tri r s with h|h|h
  ·by_cases e:a=b
   ·exact .inl (.inr ⟨e,h⟩)
   ·rcases Nat.lt_or_gt_of_ne (fun h=>e (UInt8.toNat_inj.1 h)) with h2|h2
    ·exact .inl (.inl (UInt8.lt_iff_toNat_lt.2 h2))
    ·exact .inr (.inr (.inl (UInt8.lt_iff_toNat_lt.2 h2)))
  ·by_cases e:a=b
   ·exact .inr (.inl (by rw[e,h]))
   ·rcases Nat.lt_or_gt_of_ne (fun h=>e (UInt8.toNat_inj.1 h)) with h2|h2
    ·exact .inl (.inl (UInt8.lt_iff_toNat_lt.2 h2))
    ·exact .inr (.inr (.inl (UInt8.lt_iff_toNat_lt.2 h2)))
  ·by_cases e:a=b
   ·exact .inr (.inr (.inr ⟨e.symm,h⟩))
   ·rcases Nat.lt_or_gt_of_ne (fun h=>e (UInt8.toNat_inj.1 h)) with h2|h2
    ·exact .inl (.inl (UInt8.lt_iff_toNat_lt.2 h2))
    ·exact .inr (.inr (.inl (UInt8.lt_iff_toNat_lt.2 h2)))
theorem bl_trans:∀a b c:List UInt8,Op.bytesLess a b=true→Op.bytesLess b c=true→Op.bytesLess a c=true
 |_,_,[],_,h=>by cases ‹List UInt8›<;>simp[Op.bytesLess]at h
 |_,[],_::_,h,_=>by cases ‹List UInt8›<;>simp[Op.bytesLess]at h
 |[],_::_,_::_,_,_=>rfl
 | a :: r, b :: s, c :: t, h, k => by
  simp only[Op.bytesLess,Bool.or_eq_true,Bool.and_eq_true,decide_eq_true_eq,beq_iff_eq]at h k ⊢
  rcases h with h|⟨rfl,h⟩
  ·rcases k with k|⟨rfl,k⟩
   ·exact .inl (UInt8.lt_trans h k)
   ·exact .inl h
  ·rcases k with k|⟨rfl,k⟩
   ·exact .inl k
   ·exact .inr ⟨rfl,bl_trans r s t h k⟩
theorem bl_asym(a b:List UInt8)(h:Op.bytesLess a b=true):Op.bytesLess b a=false:=by
 apply Bool.eq_false_iff.2
 intro k
 have:=bl_trans a b a h k
 rw[bl_irr]at this
 cases this
def cmpL(a b:List UInt8):Int:=if Op.bytesLess a b then -1 else if Op.bytesLess b a then 1 else 0
def cmpT(a b:ByteArray):Int:=cmpL a.toList b.toList
def Tri(p q r:Int):Prop:=(p≤0→q≤0→r≤0)∧(p<0→q≤0→r<0)∧(p≤0→q<0→r<0)∧(p=0→q=0→r=0)
def orI(p q:Int):Int:=if p=0 then q else p
def In1(p:Int):Prop:=p=-1∨p=0∨p=1
theorem Tri.or{p q r p' q' r':Int}(h:Tri p q r)(k:p=0→q=0→r=0→Tri p' q' r'):Tri (orI p p') (orI q q') (orI r r'):=by
 unfold Tri orI at *
 by_cases hp:p=0
 ·by_cases hq:q=0
  ·have hr:r=0:=h.2.2.2 hp hq
   rw[if_pos hp,if_pos hq,if_pos hr]
   exact k hp hq hr
  ·rw[if_pos hp,if_neg hq]
   by_cases hr:r=0
   ·rw[if_pos hr];omega
   ·rw[if_neg hr];omega
 ·rw[if_neg hp]
  by_cases hq:q=0
  ·rw[if_pos hq]
   by_cases hr:r=0
   ·rw[if_pos hr];omega
   ·rw[if_neg hr];omega
  ·rw[if_neg hq]
   by_cases hr:r=0
   ·rw[if_pos hr];omega
   ·rw[if_neg hr];omega
theorem orI_neg(p q:Int):orI (-p) (-q)=- orI p q:=by
 unfold orI
 by_cases h:p=0
 ·rw[if_pos h,if_pos (by omega)]
 ·rw[if_neg h,if_neg (by omega)]
theorem In1.or{p q:Int}(h:In1 p)(k:In1 q):In1 (orI p q):=by
 unfold orI
 split
 ·exact k
 ·exact h
theorem cmpI_neg(x y:Int):cmpI y x=- cmpI x y:=by
 unfold cmpI
 by_cases h:x=y
 ·rw[if_pos h,if_pos h.symm];rfl
 ·rw[if_neg h,if_neg (fun e=>h e.symm)]
  by_cases h2:x<y
  ·rw[if_pos h2,if_neg (by omega)];rfl
  ·rw[if_neg h2,if_pos (by omega)]
theorem cmpI_in(x y:Int):In1 (cmpI x y):=by
 unfold cmpI In1
 split
 ·omega
 ·split<;>omega
theorem cmpI_lt(x y:Int):cmpI x y<0↔x<y:=by
 unfold cmpI
 split
 ·omega
 ·split<;>omega
theorem cmpI_zero(x y:Int):cmpI x y=0↔x=y:=by
 unfold cmpI
 split
 ·omega
 ·split<;>omega
theorem cmpI_le(x y:Int):cmpI x y≤0↔x≤y:=by
 unfold cmpI
 split
 ·omega
 ·split<;>omega
theorem cmpI_tri(x y z:Int):Tri (cmpI x y) (cmpI y z) (cmpI x z):=by
 unfold Tri
 simp only[cmpI_lt,cmpI_le,cmpI_zero]
 omega
theorem cmpI_self(x:Int):cmpI x x=0:=(cmpI_zero x x).2 rfl
theorem cmpL_neg(x y:List UInt8):cmpL y x=- cmpL x y:=by
 unfold cmpL
 cases h:Op.bytesLess x y
 ·cases h2:Op.bytesLess y x<;>simp
 ·rw[bl_asym x y h];simp
theorem cmpL_in(x y:List UInt8):In1 (cmpL x y):=by
 unfold cmpL In1
 split
 ·omega
 ·split<;>omega
theorem cmpL_lt(x y:List UInt8):cmpL x y<0↔Op.bytesLess x y=true:=by
 unfold cmpL
 split
 ·simp[*]
 ·rename_i h
  split<;>simp[h]
theorem cmpL_zero(x y:List UInt8):cmpL x y=0↔x=y:=by
 constructor
 ·intro h
  rcases bl_tri x y with e|e|e
  ·have:=(cmpL_lt x y).2 e;omega
  ·exact e
  ·have:=(cmpL_lt y x).2 e
   rw[cmpL_neg]at this;omega
 ·rintro rfl
  unfold cmpL
  rw[bl_irr];rfl
theorem cmpL_tri(x y z:List UInt8):Tri (cmpL x y) (cmpL y z) (cmpL x z):=by
 have key:∀a b:List UInt8,cmpL a b≤0↔Op.bytesLess a b=true∨a=b:=by
  intro a b
  have h1:=cmpL_lt a b
  have h2:=cmpL_zero a b
  constructor
  ·intro h
   by_cases e:cmpL a b=0
   ·exact .inr (h2.1 e)
   ·exact .inl (h1.1 (by omega))
  ·rintro(h|h)
   ·have:=h1.2 h;omega
   ·have:=h2.2 h;omega
 unfold Tri
 simp only[key,cmpL_lt,cmpL_zero]
 refine⟨?_,?_,?_,?_⟩
 ·rintro(h|rfl) (k|rfl)
  ·exact .inl (bl_trans _ _ _ h k)
  ·exact .inl h
  ·exact .inl k
  ·exact .inr rfl
 ·rintro h (k|rfl)
  ·exact bl_trans _ _ _ h k
  ·exact h
 ·rintro(h|rfl) k
  ·exact bl_trans _ _ _ h k
  ·exact k
 ·rintro rfl rfl;rfl
theorem cmpT_zero(a b:ByteArray):cmpT a b=0↔a=b:=by
 unfold cmpT
 rw[cmpL_zero]
 exact⟨toList_inj,fun h=>by rw[h]⟩
def isNum(k:Int):Bool:=decide (k=2∨k=3)
def numV(k n:Int)(t:ByteArray):Int:=if k=2 then n * E20 else if chk t.data.toList then zof t.data.toList else 0
def rankV(s:Bool)(k:Int):Int:=
 if k=5 then 1 else if k=6 then 2 else if k=7 then 3 else if k=9 then 4 else if k=8 then 5 else if k=10 then 6 else if k=4 then 7 else if k=1 then 8
 else if k=2∨k=3 then 9 else if k=0 then(if s then 0 else 10) else 11
mutual
def ordV(s:Bool):V→V→Int
 | .mk k b n t x l, .mk k2 b2 n2 t2 x2 l2 =>
  orI (cmpI (rankV s k) (rankV s k2))
   (if isNum k then orI (cmpI (numV k n t) (numV k2 n2 t2)) (if k=2∨k2=2 then cmpI k k2 else cmpT t t2)
   else if k=5 then ordL s l l2
   else if k=6∨k=7 then cmpI n n2
   else if k=1 then cmpI (b2i b) (b2i b2)
   else orI (cmpT t t2) (cmpT x x2))
def ordL(s:Bool):List V→List V→Int
 |[],[]=>0
 |[],_::_=>-1
 |_::_,[]=>1
 |v::l,u::m=>orI (ordV s v u) (ordL s l m)
end
open Go.RowKit dec
theorem rank_1(s:Bool)(k:Int):rankV s k=1↔k=5:=by unfold rankV;repeat' split<;>omega
theorem rank_2(s:Bool)(k:Int):rankV s k=2↔k=6:=by unfold rankV;repeat' split<;>omega
theorem rank_3(s:Bool)(k:Int):rankV s k=3↔k=7:=by unfold rankV;repeat' split<;>omega
theorem rank_8(s:Bool)(k:Int):rankV s k=8↔k=1:=by unfold rankV;repeat' split<;>omega
theorem rank_9(s:Bool)(k:Int):rankV s k=9↔(k=2∨k=3):=by unfold rankV;repeat' split<;>omega
theorem isNum_iff(k:Int):isNum k=true↔(k=2∨k=3):=by unfold isNum;exact decide_eq_true_iff
structure Cls(k k2:Int):Prop where
 num:isNum k2=isNum k
 c5:k2=5↔k=5
 c6:k2=6↔k=6
 c7:k2=7↔k=7
 c1:k2=1↔k=1
theorem cls{s:Bool}{k k2:Int}(h:rankV s k=rankV s k2):Cls k k2:=by
 refine⟨?_,?_,?_,?_,?_⟩
 ·have h1:=rank_9 s k
  have h2:=rank_9 s k2
  rw[Bool.eq_iff_iff,isNum_iff,isNum_iff,←h1,←h2,h]
 ·rw[←rank_1 s k,←rank_1 s k2,h]
 ·rw[←rank_2 s k,←rank_2 s k2,h]
 ·rw[←rank_3 s k,←rank_3 s k2,h]
 ·rw[←rank_8 s k,←rank_8 s k2,h]
theorem orI_skip{p a b:Int}(h:p≠0):orI p a=orI p b:=by unfold orI;rw[if_neg h,if_neg h]
theorem cmpT_neg(x y:ByteArray):cmpT y x=- cmpT x y:=cmpL_neg _ _
theorem cmpT_in(x y:ByteArray):In1 (cmpT x y):=cmpL_in _ _
theorem cmpT_tri(x y z:ByteArray):Tri (cmpT x y) (cmpT y z) (cmpT x z):=cmpL_tri _ _ _
theorem In1.neg{p:Int}(h:In1 p):In1 (-p):=by unfold In1 at *;omega
def restV(k n:Int)(b:Bool)(t x:ByteArray)(f:Int)(k2 n2:Int)(b2:Bool)(t2 x2:ByteArray):Int:=
 if isNum k then orI (cmpI (numV k n t) (numV k2 n2 t2)) (if k=2∨k2=2 then cmpI k k2 else cmpT t t2)
 else if k=5 then f
 else if k=6∨k=7 then cmpI n n2
 else if k=1 then cmpI (b2i b) (b2i b2)
 else orI (cmpT t t2) (cmpT x x2)
theorem ordV_mk(s:Bool)(k:Int)(b:Bool)(n:Int)(t x:ByteArray)(l:List V)(k2:Int)(b2:Bool)(n2:Int)(t2 x2:ByteArray)(l2:List V):
 ordV s (.mk k b n t x l) (.mk k2 b2 n2 t2 x2 l2)=orI (cmpI (rankV s k) (rankV s k2)) (restV k n b t x (ordL s l l2) k2 n2 b2 t2 x2):=by
 rw[ordV];rfl
theorem rest_neg{k k2:Int}(hc:Cls k k2){f g:Int}(hf:g=-f)(n:Int)(b:Bool)(t x:ByteArray)(n2:Int)(b2:Bool)(t2 x2:ByteArray):
 restV k2 n2 b2 t2 x2 g k n b t x=- restV k n b t x f k2 n2 b2 t2 x2:=by
 unfold restV
 rw[hc.num]
 cases hn:isNum k
 ·simp only[Bool.false_eq_true,if_false]
  by_cases h5:k=5
  ·rw[if_pos h5,if_pos (hc.c5.2 h5)];exact hf
  rw[if_neg h5,if_neg (fun e=>h5 (hc.c5.1 e))]
  by_cases h6:k=6∨k=7
  ·rw[if_pos h6,if_pos (h6.imp hc.c6.2 hc.c7.2)];exact cmpI_neg _ _
  rw[if_neg h6,if_neg (fun e=>h6 (e.imp hc.c6.1 hc.c7.1))]
  by_cases h1:k=1
  ·rw[if_pos h1,if_pos (hc.c1.2 h1)];exact cmpI_neg _ _
  rw[if_neg h1,if_neg (fun e=>h1 (hc.c1.1 e)),cmpT_neg t t2,cmpT_neg x x2]
  exact orI_neg _ _
 ·simp only[if_true]
  rw[cmpI_neg (numV k n t),←orI_neg]
  congr 1
  by_cases h2:k=2∨k2=2
  ·rw[if_pos h2,if_pos h2.symm];exact cmpI_neg _ _
  ·rw[if_neg h2,if_neg (fun e=>h2 e.symm)];exact cmpT_neg _ _
theorem rest_in{k:Int}{f:Int}(hf:In1 f)(n:Int)(b:Bool)(t x:ByteArray)(k2 n2:Int)(b2:Bool)(t2 x2:ByteArray):In1 (restV k n b t x f k2 n2 b2 t2 x2):=by
 unfold restV
 split
 ·refine(cmpI_in _ _).or ?_
  split
  ·exact cmpI_in _ _
  ·exact cmpT_in _ _
 ·split
  ·exact hf
  ·split
   ·exact cmpI_in _ _
   ·split
    ·exact cmpI_in _ _
    ·exact(cmpT_in _ _).or (cmpT_in _ _)
theorem kinds_tri(k k2 k3:Int)(hk:k=2∨k=3)(hk2:k2=2∨k2=3)(hk3:k3=2∨k3=3)(p q r:Int)(h:Tri p q r):
 Tri (if k=2∨k2=2 then cmpI k k2 else p) (if k2=2∨k3=2 then cmpI k2 k3 else q) (if k=2∨k3=2 then cmpI k k3 else r):=by
 rcases hk with rfl|rfl<;>rcases hk2 with rfl|rfl<;>rcases hk3 with rfl|rfl<;>simp[cmpI]<;>unfold Tri at *<;>omega
theorem rest_tri{k k2 k3:Int}(h2:Cls k k2)(h3:Cls k k3){f g h:Int}(hf:k=5→Tri f g h)(n:Int)(b:Bool)(t x:ByteArray)(n2:Int)(b2:Bool)(t2 x2:ByteArray)(n3:Int)(b3:Bool)(t3 x3:ByteArray):
 Tri (restV k n b t x f k2 n2 b2 t2 x2) (restV k2 n2 b2 t2 x2 g k3 n3 b3 t3 x3) (restV k n b t x h k3 n3 b3 t3 x3):=by
 unfold restV
 have hn3:=h3.num
 have hn2:=h2.num
 rw[hn2]
 cases hn:isNum k
 ·simp only[Bool.false_eq_true,if_false]
  by_cases h5:k=5
  ·have h25:k2=5:=h2.c5.2 h5
   rw[if_pos h5,if_pos h25,if_pos h5];exact hf h5
  have h25:¬k2=5:=fun e=>h5 (h2.c5.1 e)
  rw[if_neg h5,if_neg h25,if_neg h5]
  by_cases h6:k=6∨k=7
  ·have h26:k2=6∨k2=7:=h6.imp h2.c6.2 h2.c7.2
   rw[if_pos h6,if_pos h26,if_pos h6];exact cmpI_tri _ _ _
  have h26:¬(k2=6∨k2=7):=fun e=>h6 (e.imp h2.c6.1 h2.c7.1)
  rw[if_neg h6,if_neg h26,if_neg h6]
  by_cases h1:k=1
  ·have h21:k2=1:=h2.c1.2 h1
   rw[if_pos h1,if_pos h21,if_pos h1];exact cmpI_tri _ _ _
  have h21:¬k2=1:=fun e=>h1 (h2.c1.1 e)
  rw[if_neg h1,if_neg h21,if_neg h1]
  exact(cmpT_tri _ _ _).or fun _ _ _=>cmpT_tri _ _ _
 ·simp only[if_true]
  refine(cmpI_tri _ _ _).or fun _ _ _=>?_
  rw[hn]at hn2 hn3
  exact kinds_tri k k2 k3 ((isNum_iff k).1 hn) ((isNum_iff k2).1 hn2) ((isNum_iff k3).1 hn3) _ _ _ (cmpT_tri _ _ _)
mutual
theorem ordV_neg(s:Bool):∀v u:V,ordV s u v=- ordV s v u
 | .mk k b n t x l, .mk k2 b2 n2 t2 x2 l2 => by
  rw[ordV_mk,ordV_mk,cmpI_neg (rankV s k) (rankV s k2)]
  by_cases hr:rankV s k=rankV s k2
  ·rw[rest_neg (cls hr) (ordL_neg s l l2) n b t x n2 b2 t2 x2,orI_neg]
  ·have h0:cmpI (rankV s k) (rankV s k2)≠0:=fun e=>hr ((cmpI_zero _ _).1 e)
   rw[←orI_neg]
   exact orI_skip (by omega)
theorem ordL_neg(s:Bool):∀v u:List V,ordL s u v=- ordL s v u
 |[],[]=>by rw[ordL];rfl
 |[],_::_=>by rw[ordL,ordL];rfl
 |_::_,[]=>by rw[ordL,ordL]
 |v::l,u::m=>by rw[ordL,ordL,ordV_neg s v u,ordL_neg s l m,orI_neg]
end
mutual
theorem ordV_in(s:Bool):∀v u:V,In1 (ordV s v u)
 |.mk k b n t x l,.mk k2 b2 n2 t2 x2 l2=>by
  rw[ordV_mk]
  exact(cmpI_in _ _).or (rest_in (ordL_in s l l2) ..)
theorem ordL_in(s:Bool):∀v u:List V,In1 (ordL s v u)
 |[],[]=>by rw[ordL];exact .inr (.inl rfl)
 |[],_::_=>by rw[ordL];exact .inl rfl
 |_::_,[]=>by rw[ordL];exact .inr (.inr rfl)
 |v::l,u::m=>by rw[ordL];exact(ordV_in s v u).or (ordL_in s l m)
end
mutual
theorem ordV_tri(s:Bool):∀v u w:V,Tri (ordV s v u) (ordV s u w) (ordV s v w)
 |.mk k b n t x l,.mk k2 b2 n2 t2 x2 l2,.mk k3 b3 n3 t3 x3 l3=>by
  rw[ordV_mk,ordV_mk,ordV_mk]
  refine(cmpI_tri _ _ _).or fun h1 h2 h3=>?_
  exact rest_tri (cls ((cmpI_zero _ _).1 h1)) (cls ((cmpI_zero _ _).1 h3)) (fun _=>ordL_tri s l l2 l3) ..
theorem ordL_tri(s:Bool):∀v u w:List V,Tri (ordL s v u) (ordL s u w) (ordL s v w)
 |[],[],[]=>by simp only[ordL];unfold Tri;omega
 |[],[],_::_=>by simp only[ordL];unfold Tri;omega
 |[],_::_,[]=>by simp only[ordL];unfold Tri;omega
 |[],_::_,_::_=>by simp only[ordL];unfold Tri;omega
 |_::_,[],[]=>by simp only[ordL];unfold Tri;omega
 |_::_,[],_::_=>by simp only[ordL];unfold Tri;omega
 |_::_,_::_,[]=>by simp only[ordL];unfold Tri;omega
 |v::l,u::m,w::o=>by
  rw[ordL,ordL,ordL]
  exact(ordV_tri s v u w).or fun _ _ _=>ordL_tri s l m o
end
theorem chkV_W(d:Nat):∃f:List V→Bool,chkV d=chkW f∧∀l,f l=true→∃d',d=d'+1∧l.all (chkV d')=true:=by
 cases d with
 |zero=>exact⟨_,rfl,fun l h=>by cases h⟩
 |succ d=>exact⟨_,rfl,fun l h=>⟨d,rfl,h⟩⟩
theorem chkW_facts{f:List V→Bool}{k:Int}{b:Bool}{n:Int}{t x:ByteArray}{l:List V}(h:chkW f (.mk k b n t x l)=true):
 (k≠1→b=false)∧(k≠2→k≠6→k≠7→n=0)∧(k=0∨k=1∨k=2∨k=5∨k=6∨k=7→t.size=0)∧(k≠10→x.size=0)∧(k≠5→l=[])∧(k=3→chk t.data.toList=true)∧(k=5→f l=true)∧(0≤k∧k≤10):=by
 rcases kinds k with rfl|rfl|rfl|rfl|rfl|rfl|rfl|rfl|rfl|rfl|rfl|⟨h0,h1,h2,h3,h4,h5,h6,h7,h8,h9,h10⟩
 iterate 11
  ·simp[chkW,emp]at h
   simp[h]
 ·rw[chkW_other f k h0 h1 h2 h3 h4 h5 h6 h7 h8 h9 h10]at h
  cases h
theorem size0{t:ByteArray}(h:t.size=0):t=⟨#[]⟩:=by
 apply ba_ext
 exact List.eq_nil_of_length_eq_zero (by simpa using h)
def nullV:V:=.mk 0 false 0 ⟨#[]⟩ ⟨#[]⟩ []
end Go.Proofs.YtidplkfhodpdhaaGreatDoor.val
set_option linter.unusedSimpArgs false
set_option linter.unusedVariables false
namespace Go.Proofs.YtidplkfhodpdhaaGreatDoor.val
open Go.RowKit dec
mutual
def in64V:V→Prop
 |.mk _ _ n _ _ l=>In64 n∧in64L l
def in64L:List V→Prop
 |[]=>True
 |v::r=>in64V v∧in64L r
end
theorem in64L_mem:∀{l:List V},in64L l→∀v∈l,in64V v
 |u::r,h,v,hv=>by
  rw[in64L]at h
  rcases List.mem_cons.1 hv with rfl|hv
  ·exact h.1
  ·exact in64L_mem h.2 v hv
theorem in64L_of:∀{l:List V},(∀v∈l,in64V v)→in64L l
 |[],_=>by rw[in64L];trivial
 |u::r,h=>by
  rw[in64L]
  exact⟨h u (by simp),in64L_of fun v hv=>h v (by simp[hv])⟩
mutual
theorem LA.in64{w:World}{N:Nat}:∀{s:Value} {l:List V},LA w N s l→in64L l
 |_,_,.mk ao cap l hl h=>in64L_of fun v hv=>by
  obtain⟨j,hj,rfl⟩:=List.getElem_of_mem hv
  exact EA.in64 (h j hj)
theorem EA.in64{w:World}{N:Nat}:∀{ao:Option Addr} {o:Nat} {v:V},EA w N ao o v→in64V v
 |_,_,_,.mk b off o k bo n t x l s hr hk hn ht hx hs=>by rw[in64V];exact⟨hn,LA.in64 hs⟩
end
theorem lo8_inj{n m:Nat}(h:lo8 n=lo8 m):n % 256=m % 256:=by
 have:=congrArg UInt8.toNat h
 simpa[lo8]using this
theorem bigL_inj:∀(k:Nat) (n m:Nat) (p q:List UInt8),bigL n k++p=bigL m k++q→n % 2 ^ (8 * k)=m % 2 ^ (8 * k)∧p=q
 |0,n,m,p,q,h=>⟨by simp[Nat.mod_one],by simpa[bigL]using h⟩
 |k+1,n,m,p,q,h=>by
  rw[bigL,bigL,List.cons_append,List.cons_append,List.cons.injEq]at h
  obtain⟨h1,h2⟩:=bigL_inj k n m p q h.2
  refine⟨?_,h2⟩
  have h3:=lo8_inj h.1
  have e:2 ^ (8 * (k+1))=2 ^ (8 * k) * 256:=by rw[Nat.mul_add,Nat.pow_add]
  rw[e,Nat.mod_mul,Nat.mod_mul,h1,h3]
theorem bigL_eq{k n m:Nat}{p q:List UInt8}(h:bigL n k++p=bigL m k++q)(hn:n<2 ^ (8 * k))(hm:m<2 ^ (8 * k)):n=m∧p=q:=by
 obtain⟨h1,h2⟩:=bigL_inj k n m p q h
 rw[Nat.mod_eq_of_lt hn,Nat.mod_eq_of_lt hm]at h1
 exact⟨h1,h2⟩
theorem app_eq{a b p q:List UInt8}(hl:a.length=b.length)(h:a++p=b++q):a=b∧p=q:=List.append_inj h hl
theorem txL_inj{t u:ByteArray}{p q:List UInt8}(ht:t.size≤1048576)(hu:u.size≤1048576)(h:txL t++p=txL u++q):t=u∧p=q:=by
 unfold txL at h
 rw[List.append_assoc,List.append_assoc]at h
 obtain⟨h1,h2⟩:=bigL_eq h (by omega) (by omega)
 have hs:t.data.toList.length=u.data.toList.length:=by simpa using h1
 obtain⟨h3,h4⟩:=app_eq hs h2
 exact⟨ba_ext h3,h4⟩
theorem u64_inj{n m:Int}(hn:In64 n)(hm:In64 m)(h:u64 n=u64 m):n=m:=by
 unfold u64 at h
 unfold In64 at hn hm
 omega
theorem u64_lt(n:Int):u64 n<2 ^ (8 * 8):=by
 unfold u64
 omega
theorem chkW_more{f:List V→Bool}{k:Int}{b:Bool}{n:Int}{t x:ByteArray}{l:List V}(h:chkW f (.mk k b n t x l)=true):t.size≤1048576∧x.size≤1048576∧l.length≤4096:=by
 rcases kinds k with rfl|rfl|rfl|rfl|rfl|rfl|rfl|rfl|rfl|rfl|rfl|⟨h0,h1,h2,h3,h4,h5,h6,h7,h8,h9,h10⟩
 iterate 11
  ·simp[chkW,emp,iriB,nameB,chk]at h
   refine⟨?_,?_,?_⟩<;>(try rw[←ByteArray.size_data])<;>(try simp only[←Array.length_toList])<;>simp_all<;>omega
 ·rw[chkW_other f k h0 h1 h2 h3 h4 h5 h6 h7 h8 h9 h10]at h
  cases h
theorem encK(k:Int)(b:Bool)(n:Int)(t x:ByteArray)(l:List V)(p:List UInt8):encV (.mk k b n t x l)++p=lo8 (u64 k) ::
 ((if k=1 then[if b then 1 else 0] else if k=2∨k=6∨k=7 then bigL (u64 n) 8 else if k=3∨k=4∨k=8∨k=9 then txL t
  else if k=10 then txL t++txL x else if k=5 then bigL l.length 4++encL l else[])++p):=by
 rw[encV,List.cons_append]
theorem lo8_kind{k k2:Int}(h:lo8 (u64 k)=lo8 (u64 k2))(h0:0≤k∧k≤10)(h1:0≤k2∧k2≤10):k=k2:=by
 have:=lo8_inj h
 unfold u64 at this
 omega
theorem encL_injP(P:V→Prop):∀(l m:List V) (p q:List UInt8),l.length=m.length→(∀v∈l,∀u∈m,∀p q:List UInt8,encV v++p=encV u++q→v=u∧p=q)→encL l++p=encL m++q→l=m∧p=q
 |[],[],p,q,_,_,h=>⟨rfl,by simpa[encL]using h⟩
 |[],_::_,_,_,hl,_,_=>by simp at hl
 |_::_,[],_,_,hl,_,_=>by simp at hl
 |v::l,u::m,p,q,hl,hv,h=>by
  rw[encL,encL,List.append_assoc,List.append_assoc]at h
  obtain⟨h1,h2⟩:=hv v (by simp) u (by simp) _ _ h
  obtain⟨h3,h4⟩:=encL_injP P l m p q (by simpa using hl) (fun v hv' u hu=>hv v (by simp[hv']) u (by simp[hu])) h2
  exact⟨by rw[h1,h3],h4⟩
theorem encV_inj:∀d v u (p q:List UInt8),chkV d v=true→chkV d u=true→in64V v→in64V u→encV v++p=encV u++q→v=u∧p=q:=by
 intro d
 induction d using Nat.strongRecOn with
 | ind d ih =>
  intro v u p q hv hu iv iu h
  obtain⟨f,hf,hfl⟩:=chkV_W d
  rw[hf]at hv hu
  obtain⟨k,b,n,t,x,l⟩:=v
  obtain⟨k2,b2,n2,t2,x2,l2⟩:=u
  rw[encK,encK,List.cons.injEq]at h
  obtain⟨hk,h⟩:=h
  obtain⟨a1,a2,a3,a4,a5,a6,a7,a8⟩:=chkW_facts hv
  obtain⟨c1,c2,c3,c4,c5,c6,c7,c8⟩:=chkW_facts hu
  obtain⟨s1,s2,s3⟩:=chkW_more hv
  obtain⟨r1,r2,r3⟩:=chkW_more hu
  rw[in64V]at iv iu
  obtain rfl:=lo8_kind hk a8 c8
  by_cases h1:k=1
  ·subst h1
   rw[if_pos rfl,if_pos rfl]at h
   rw[List.singleton_append,List.singleton_append,List.cons.injEq]at h
   have hb:b=b2:=by
    have:=h.1
    cases b<;>cases b2<;>simp at this<;>rfl
   rw[hb,a2 (by decide) (by decide) (by decide),c2 (by decide) (by decide) (by decide),size0 (a3 (by decide)),size0 (c3 (by decide)),size0 (a4 (by decide)),size0 (c4 (by decide)),a5 (by decide),c5 (by decide)]
   exact⟨rfl,h.2⟩
  rw[if_neg h1,if_neg h1]at h
  rw[a1 h1,c1 h1]
  by_cases h2:k=2∨k=6∨k=7
  ·rw[if_pos h2,if_pos h2]at h
   obtain⟨e1,e2⟩:=bigL_eq h (u64_lt n) (u64_lt n2)
   rw[u64_inj iv.1 iu.1 e1,size0 (a3 (by omega)),size0 (c3 (by omega)),size0 (a4 (by omega)),size0 (c4 (by omega)),a5 (by omega),c5 (by omega)]
   exact⟨rfl,e2⟩
  rw[if_neg h2,if_neg h2]at h
  rw[a2 (by omega) (by omega) (by omega),c2 (by omega) (by omega) (by omega)]
  by_cases h3:k=3∨k=4∨k=8∨k=9
  ·rw[if_pos h3,if_pos h3]at h
   obtain⟨e1,e2⟩:=txL_inj s1 r1 h
   rw[e1,size0 (a4 (by omega)),size0 (c4 (by omega)),a5 (by omega),c5 (by omega)]
   exact⟨rfl,e2⟩
  rw[if_neg h3,if_neg h3]at h
  by_cases h10:k=10
  ·rw[if_pos h10,if_pos h10,List.append_assoc,List.append_assoc]at h
   obtain⟨e1,e2⟩:=txL_inj s1 r1 h
   obtain⟨e3,e4⟩:=txL_inj s2 r2 e2
   rw[e1,e3,a5 (by omega),c5 (by omega)]
   exact⟨rfl,e4⟩
  rw[if_neg h10,if_neg h10]at h
  rw[size0 (a4 h10),size0 (c4 h10)]
  by_cases h5:k=5
  ·rw[if_pos h5,if_pos h5,List.append_assoc,List.append_assoc]at h
   obtain⟨e1,e2⟩:=bigL_eq h (by omega) (by omega)
   obtain⟨d',hd,hl⟩:=hfl l (a7 h5)
   obtain⟨d2,hd2,hl2⟩:=hfl l2 (c7 h5)
   obtain rfl:d'=d2:=by omega
   obtain⟨e3,e4⟩:=encL_injP (fun _=>True) l l2 p q e1 (fun v hv u hu p q=>ih d' (by omega) v u p q (List.all_eq_true.1 hl v hv) (List.all_eq_true.1 hl2 u hu) (in64L_mem iv.2 v hv) (in64L_mem iu.2 u hu)) e2
   rw[e3,size0 (a3 (by omega)),size0 (c3 (by omega))]
   exact⟨rfl,e4⟩
  rw[if_neg h5,if_neg h5]at h
  rw[size0 (a3 (by omega)),size0 (c3 (by omega)),a5 h5,c5 h5]
  exact⟨rfl,h⟩
theorem encRow_inj{l m:List V}(hl:l.all mayV=true)(hm:m.all mayV=true)(il:in64L l)(im:in64L m)(hlen:l.length=m.length)(h:encL l=encL m):l=m:=by
 refine(encL_injP (fun _=>True) l m [] [] hlen (fun v hv u hu p q=>encV_inj 60 v u p q (List.all_eq_true.1 hl v hv) (List.all_eq_true.1 hm u hu) (in64L_mem il v hv) (in64L_mem im u hu)) (by rw[List.append_nil,List.append_nil];exact h)).1
end Go.Proofs.YtidplkfhodpdhaaGreatDoor.val
namespace Go.Proofs.YtidplkfhodpdhaaGreatDoor.tab
open Go.RowKit dec val
theorem getD_at{α:Type}{d:α}(l:List α){j:Nat}(h:j<l.length):l.getD j d=l[j]:=by
 rw[List.getD_eq_getElem?_getD,List.getElem?_eq_getElem h];rfl
def insPos(s:Bool)(l:List (List V))(r:List V):Nat→Nat
 |0=>0
 |k+1=>if 0<ordL s (l.getD k []) r then insPos s l r k else k+1
def insR(s:Bool)(l:List (List V))(r:List V):List (List V):=l.take (insPos s l r l.length)++r::l.drop (insPos s l r l.length)
def sortR(s:Bool)(l:List (List V)):List (List V):=l.foldl (insR s) []
theorem insPos_le(s:Bool)(l:List (List V))(r:List V):∀k,insPos s l r k≤k
 |0=>Nat.le_refl _
 |k+1=>by
  unfold insPos
  split
  ·have:=insPos_le s l r k;omega
  ·omega
theorem insPos_ahead(s:Bool)(l:List (List V))(r:List V):∀k,0<insPos s l r k→¬0<ordL s (l.getD (insPos s l r k-1) []) r
 |0,h=>by simp[insPos]at h
 | k + 1, h => by
  unfold insPos at h ⊢
  split
  ·rename_i hc
   rw[if_pos hc]at h
   exact insPos_ahead s l r k h
  ·rename_i hc
   exact hc
theorem insPos_behind(s:Bool)(l:List (List V))(r:List V):∀k j,insPos s l r k≤j→j<k→0<ordL s (l.getD j []) r
 |0,j,_,h=>by omega
 | k + 1, j, h, hj => by
  unfold insPos at h
  split at h
  ·rename_i hc
   by_cases e:j=k
   ·rw[e];exact hc
   ·exact insPos_behind s l r k j h (by omega)
  ·omega
theorem insR_perm(s:Bool)(l:List (List V))(r:List V):(insR s l r).Perm (l++[r]):=by
 unfold insR
 refine List.perm_middle.trans ?_
 rw[List.take_append_drop]
 exact List.perm_append_comm (l₁:=[r]) (l₂:=l)
theorem insR_sorted(s:Bool)(l:List (List V))(r:List V)(h:l.Pairwise (fun a b=>ordL s a b≤0)):(insR s l r).Pairwise (fun a b=>ordL s a b≤0):=by
 unfold insR
 have hle:=insPos_le s l r l.length
 have hA:=insPos_ahead s l r l.length
 have hB:=insPos_behind s l r l.length
 generalize insPos s l r l.length=k at *
 have htr:∀a b c:List V,ordL s a b≤0→ordL s b c≤0→ordL s a c≤0:=fun a b c h1 h2=>by
  have ht:=ordL_tri s a b c
  have hi:=ordL_in s a c
  unfold Tri at ht
  unfold In1 at hi
  omega
 rw[List.pairwise_iff_getElem]at h
 rw[List.pairwise_append,List.pairwise_cons]
 have hi:∀a b:List V,In1 (ordL s a b):=ordL_in s
 refine⟨?_,⟨?_,?_⟩,?_⟩
 ·rw[List.pairwise_iff_getElem]
  intro i j hi hj hij
  rw[List.getElem_take,List.getElem_take]
  exact h i j _ _ hij
 ·intro b hb
  obtain⟨j,hj,rfl⟩:=List.getElem_of_mem hb
  rw[List.getElem_drop]
  rw[List.length_drop]at hj
  have:=hB (k+j) (by omega) (by omega)
  rw[getD_at _ (by omega)]at this
  have:=ordL_neg s (l[k+j]'(by omega)) r
  omega
 ·rw[List.pairwise_iff_getElem]
  intro i j hi hj hij
  rw[List.getElem_drop,List.getElem_drop]
  exact h _ _ _ _ (by omega)
 ·intro a ha b hb
  obtain⟨i,hi,rfl⟩:=List.getElem_of_mem ha
  rw[List.length_take]at hi
  rw[List.getElem_take]
  have h1:ordL s (l[i]'(by omega)) r≤0:=by
   have h0:0<k:=by omega
   have:=hA h0
   rw[getD_at _ (by omega)]at this
   by_cases e:i=k-1
   ·have e2:l[i]'(by omega)=l[k-1]'(by omega):=by congr
    rw[e2];omega
   ·exact htr _ (l[k-1]'(by omega)) _ (h i (k-1) (by omega) (by omega) (by omega)) (by omega)
  rcases List.mem_cons.1 hb with rfl|hb
  ·exact h1
  ·obtain⟨j,hj,rfl⟩:=List.getElem_of_mem hb
   rw[List.length_drop]at hj
   rw[List.getElem_drop]
   exact h i (k+j) (by omega) (by omega) (by omega)
theorem sortR_fold(s:Bool):∀(l out:List (List V)),out.Pairwise (fun a b=>ordL s a b≤0)→(l.foldl (insR s) out).Pairwise (fun a b=>ordL s a b≤0)∧(l.foldl (insR s) out).Perm (out++l)
 |[],out,h=>⟨h,by simp⟩
 |r::l,out,h=>by
  obtain⟨h1,h2⟩:=sortR_fold s l (insR s out r) (insR_sorted s out r h)
  rw[List.foldl_cons]
  refine⟨h1,h2.trans ?_⟩
  have:=(insR_perm s out r).append_right l
  simpa using this
theorem sortR_sorted(s:Bool)(l:List (List V)):(sortR s l).Pairwise (fun a b=>ordL s a b≤0):=(sortR_fold s l [] List.Pairwise.nil).1
theorem sortR_perm(s:Bool)(l:List (List V)):(sortR s l).Perm l:=by
 have:=(sortR_fold s l [] List.Pairwise.nil).2
 simpa[sortR]using this
theorem sortR_len(s:Bool)(l:List (List V)):(sortR s l).length=l.length:=(sortR_perm s l).length_eq
def in64T(t:Tab):Prop:=∀r∈t.rows,in64L r
theorem mayT_rows{t:Tab}(h:mayT t=true)(hi:in64T t):∀r∈t.rows,rowB t.vars.length r=true∧in64L r:=fun r hr=>by
 unfold mayT at h
 rw[Bool.and_eq_true,List.all_eq_true]at h
 exact⟨h.2 r hr,hi r hr⟩
theorem mayT_cells{t:Tab}(h:mayT t=true):∀r∈t.rows,r.all mayV=true:=fun r hr=>by
 unfold mayT at h
 rw[Bool.and_eq_true,List.all_eq_true]at h
 have:=h.2 r hr
 unfold rowB at this
 rw[Bool.and_eq_true]at this
 exact this.2
end Go.Proofs.YtidplkfhodpdhaaGreatDoor.tab
