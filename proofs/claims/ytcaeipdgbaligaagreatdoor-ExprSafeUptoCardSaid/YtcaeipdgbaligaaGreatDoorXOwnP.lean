/- Texts TabMap, JnMap, XMapV, XOwnP, one behind the other. -/
import Derived.Maps.OwnSet
import Derived.Test.YtcaeipdgbaligaaGreatDoorXLight
set_option linter.unusedSimpArgs false
set_option linter.unusedVariables false
namespace Go.Proofs.YtcaeipdgbaligaaGreatDoor.tab
open Go.ChangeMaps Go.MapKept
open Go.Maps (Keyed IsMap Tidy string_keyed KeysOf fit_keys fit_apart)
open Go.RowKit kit
structure SMap(P:Program)(T K E:TypeId)(qe:IntKind):Prop where
 hT:P.underlying T=some (.map K E)
 hK:P.underlying K=some .string
 hE:P.underlying E=some (.int qe)
 hz:∀w,(zeroValue E).run P w=.ok (.int qe 0) w
theorem keyOf_text{P:Program}{k:TypeId}(hk:P.underlying k=some .string)(s:ByteArray)(hs:s.size≤maxLen):keyOf P k (.string s)=some (.string s.data.toList):=by
 simp[keyOf,hk,mapKey,Go.ByteArray.toList_eq,hs]
def MapS(P:Program)(K E:TypeId)(qe:IntKind)(w:World)(b n:Nat)(f:List UInt8→Option Int):Prop:=
 ∃D:DataW Unit,w.ownsMap P K (plainElem P E) b n D∧∀x:List UInt8,Maps.has D (.string x)=(f x).isSome∧D.atKey (.string x) (.lit (.int qe 0))=.lit (.int qe ((f x).getD 0))
section
variable{P:Program}{T K E:TypeId}{qe:IntKind}{w w':World}{b n:Nat}{f:List UInt8→Option Int}
theorem MapS.made(w:World):MapS P K E qe (w.alloc (.map #[] 0)) w.heap.size 0 (fun _=>none):=
 ⟨.map [],World.ownsMap_made w P K _,fun x=>⟨rfl,rfl⟩⟩
theorem MapS.same(h:MapS P K E qe w b n f)(hb:w'.heap[b]? = w.heap[b]?):MapS P K E qe w' b n f:=by
 obtain⟨D,⟨es,clock,h0,r⟩,h2⟩:=h
 exact⟨D,⟨es,clock,hb.trans h0,r⟩,h2⟩
theorem MapS.lt(h:MapS P K E qe w b n f):b<w.heap.size:=by
 obtain⟨D,h1,_⟩:=h
 exact h1.lt
theorem MapS.isMap(h:MapS P K E qe w b n f):∃es clock,w.heap[b]? = some (.map es clock):=by
 obtain⟨D,⟨es,clock,h0,_⟩,_⟩:=h
 exact⟨es,clock,h0⟩
end
section
variable{P:Program}{T K E:TypeId}{qe:IntKind}(hm:SMap P T K E qe)(w:World){ops:Array Oper}{rest:List Oper}{o:Oper}{a:Act}{Q:Exit→Act→World→Prop}
include hm
end
end Go.Proofs.YtcaeipdgbaligaaGreatDoor.tab
set_option linter.unusedSimpArgs false
set_option linter.unusedVariables false
namespace Go.Proofs.YtcaeipdgbaligaaGreatDoor.tab
open Go.ChangeMaps Go.MapKept
open Go.Maps (Keyed IsMap Tidy string_keyed KeysOf fit_keys fit_apart)
open Go.RowKit kit
def heldR(v:Value):Option (DataW Value×List MemPlace):=some (.held v,[])
def MapV(P:Program)(K:TypeId)(zv:Value)(w:World)(b n:Nat)(f:List UInt8→Option Value):Prop:=
 ∃D:DataW Value,w.ownsMap P K heldR b n D∧∀x:List UInt8,Maps.has D (.string x)=(f x).isSome∧D.atKey (.string x) (.held zv)=.held ((f x).getD zv)
def updV(f:List UInt8→Option Value)(k:List UInt8)(v:Value):List UInt8→Option Value:=fun x=>if x=k then some v else f x
section
variable{P:Program}{K:TypeId}{zv:Value}{w w':World}{b n:Nat}{f:List UInt8→Option Value}
theorem MapV.made(w:World):MapV P K zv (w.alloc (.map #[] 0)) w.heap.size 0 (fun _=>none):=
 ⟨.map [],World.ownsMap_made w P K _,fun x=>⟨rfl,rfl⟩⟩
theorem MapV.same(h:MapV P K zv w b n f)(hb:w'.heap[b]? = w.heap[b]?):MapV P K zv w' b n f:=by
 obtain⟨D,⟨es,clock,h0,r⟩,h2⟩:=h
 exact⟨D,⟨es,clock,hb.trans h0,r⟩,h2⟩
theorem MapV.lt(h:MapV P K zv w b n f):b<w.heap.size:=by
 obtain⟨D,h1,_⟩:=h
 exact h1.lt
end
section
variable{P:Program}{T K E:TypeId}{zv:Value}(hT:P.underlying T=some (.map K E))(hKs:P.underlying K=some .string)(w:World){ops:Array Oper}{rest:List Oper}{o:Oper}{a:Act}{Q:Exit→Act→World→Prop}
include hT hKs
end
end Go.Proofs.YtcaeipdgbaligaaGreatDoor.tab
set_option linter.unusedSimpArgs false
set_option linter.unusedVariables false
namespace Go.Proofs.YtcaeipdgbaligaaGreatDoor.tab
open Go.ChangeMaps Go.MapKept
open Go.Maps (Keyed IsMap Tidy string_keyed KeysOf fit_keys fit_apart)
open Go.RowKit kit
section
variable{P:Program}{T K E:TypeId}{zv:Value}(hT:P.underlying T=some (.map K E))(hKs:P.underlying K=some .string)
include hT hKs
theorem MapV.look_ok{w:World}(hz:(zeroValue E).run P w=.ok zv w){b n:Nat}{f:List UInt8→Option Value}(h:MapV P K zv w b n f)(key:ByteArray)(hks:key.size≤maxLen):
 (Instr.lookup T (.map (some b)) (.string key) true).run P w=.ok (.tuple #[(f key.data.toList).getD zv,.bool (f key.data.toList).isSome]) w:=by
 obtain⟨D,hown,hD⟩:=h
 obtain⟨h1,h2⟩:=hD key.data.toList
 have hkey:=keyOf_text hKs key hks
 obtain⟨v,ps,hrun,hv⟩:=hown.look_ok (string_keyed hKs) hT hz (zd:=.held zv) (zp:=[]) rfl hkey
 rw[h2]at hv
 unfold heldR at hv
 injection hv with hv
 injection hv with hv1 hv2
 injection hv1 with hv1
 rw[hrun,hv1,h1]
variable(w:World){ops:Array Oper}{rest:List Oper}{o:Oper}{a:Act}{Q:Exit→Act→World→Prop}
theorem wpList_mapV_ins(hg:o.guard=none)(m x v:Operand)(hop:o.op=Op.insert T m x v)(b n:Nat)(f:List UInt8→Option Value)(ha:a.eval m=.map (some b))(h:MapV P K zv w b n f)(hn:n<maxLen)
 (key:ByteArray)(hks:key.size≤maxLen)(val:Value)(hx:a.eval x=.string key)(hv:a.eval v=val)
 (hK:∀w',MapV P K zv w' b (n+1) (updV f key.data.toList val)→w.grownBy w' (some b)→wpList P ops Q rest (a.put o.dst undef) w'):wpList P ops Q (o::rest) a w:=by
 obtain⟨D,hown,hD⟩:=h
 have hkl:=keyOf_text hKs key hks
 obtain⟨w',hrun,r1,r2⟩:=hown.update (string_keyed hKs) hT hn hkl (val:=val) (d:=.held val) (ps:=[]) rfl
 refine wpList_plain hg fun K' hK'=>?_
 unfold Oper.wp
 simp[execOp,hop,ha,hx,hv,hrun,Result.andThen]
 refine hK' _ _ (hK w' ⟨_,r1,fun y=>?_⟩ r2)
 by_cases hyk:y=key.data.toList
 ·subst hyk
  unfold updV
  rw[if_pos rfl]
  exact⟨Maps.has_put_same hown.isMap ((string_keyed hKs).key hkl) _,Maps.atKey_put_same hown.isMap ((string_keyed hKs).key hkl) _ _⟩
 ·have hne:Lit.string y≠Lit.string key.data.toList:=fun e=>hyk (by injection e)
  unfold updV
  rw[if_neg hyk,Maps.has_put_other hne,Maps.atKey_put_other hne]
  exact hD y
end
end Go.Proofs.YtcaeipdgbaligaaGreatDoor.tab
set_option linter.unusedSimpArgs false
set_option linter.unusedVariables false
namespace Go.Proofs.YtcaeipdgbaligaaGreatDoor.ex
open Go.RowKit kit val
def nulV:V:=.mk 0 false 0 ByteArray.empty ByteArray.empty []
theorem emp_data(t:ByteArray):decide (t.data.toList=ByteArray.empty.data.toList)=emp t:=by
 unfold emp
 rw[Bool.eq_iff_iff,decide_eq_true_eq,decide_eq_true_eq]
 show t.data.toList=[]↔t.data.size=0
 rw[←List.length_eq_zero_iff,Array.length_toList]
theorem same_nul(v:V):sameP v nulV=isNul v:=by
 obtain⟨k,b,n,t,x,l⟩:=v
 unfold nulV
 rw[sameP,isNul,emp_data,emp_data]
 have hl:sameL l []=decide (l.length=0):=by cases l<;>simp[sameL]
 rw[hl]
 cases b<;>simp[Bool.and_assoc]
def tcall(s:Bool)(t:ByteArray):Int×Int×Bool:=
 if s then
  if t=n_abs∨t=n_text∨t=n_isiri∨t=n_isblank∨t=n_isliteral∨t=n_length then(1,1,true)
  else if t=n_if then(3,3,true) else if t=n_coalesce then(1,4096,true) else(0,0,false)
 else
  if t=n_size∨t=n_head∨t=n_last∨t=n_abs∨t=n_text∨t=n_labels∨t=n_type∨t=n_id then(1,1,true)
  else if t=n_coalesce then(1,4096,true) else(0,0,false)
def tagg(s:Bool)(t:ByteArray):Int×Int×Bool:=
 (if t=n_count then 0 else 1,1,decide (t=n_count∨t=n_sum∨t=n_min∨t=n_max∨t=n_avg)||(if s then decide (t=n_sample∨t=n_concat) else decide (t=n_collect)))
def tk3(s:Bool)(op:Int)(t:ByteArray)(n:Nat):Int×Int×Bool:=
 if op=26 then tcall s t
 else if op=28 then tagg s t
 else if op=1∨op=2∨op=29 then(0,0,true)
 else if op=3 then(1,1,!s)
 else if op=4 then(0,4096,!s)
 else if op=5∨op=22∨op=16 then(1,1,true)
 else if op=6∨op=7∨op=9∨op=10∨op=11∨op=12∨op=13∨op=14∨op=17∨op=18∨op=19∨op=20∨op=23∨op=24∨op=25 then(2,2,true)
 else if op=8∨op=21∨op=15 then(2,2,!s)
 else if op=27 then(3,4096,decide (n % 2=1))
 else(0,0,false)
def tupOf(r:Int×Int×Bool):Value:=tup3 r.1 r.2.1 r.2.2
theorem takes_tk3(s:Bool)(op:Int)(t:ByteArray)(n:Nat)(h26:op≠26)(h28:op≠28):takesR s op n=tupOf (tk3 s op t n):=by
 unfold takesR tk3
 rw[if_neg h26,if_neg h28]
 repeat' split
 all_goals rfl
theorem tk3_le(s:Bool)(op:Int)(t:ByteArray)(n:Nat):(tk3 s op t n).2.1≤4096∧0≤(tk3 s op t n).1∧(tk3 s op t n).1≤4096:=by
 unfold tk3
 split
 ·unfold tcall
  repeat' split
  all_goals simp
 ·split
  ·unfold tagg
   split<;>simp
  ·repeat' split
   all_goals simp
def onePl(p:List P):Bool:=match p with|[q]=>decide (opP q≠0)|_=>false
def fieldsR(op:Int)(t:ByteArray)(v:V)(f:Bool)(p:List P)(mt gp:Nat):Bool:=
 if op=1 then mayV v&&(emp t&&(!f&&(decide (mt=0)&&(decide (gp=0)&&decide (p.length=0)))))
 else sameP v nulV&&(
  if op=2 then nameB t&&(!f&&(decide (mt=0)&&(decide (gp=0)&&decide (p.length=0))))
  else if op=3 then decide (1≤t.size)&&(decide (t.size≤1048576)&&(!f&&(decide (mt=0)&&(decide (gp=0)&&decide (p.length=0)))))
  else if op=16 then emp t&&(decide (mt=0)&&(decide (gp=0)&&decide (p.length=0)))
  else if op=26 then !f&&(decide (mt=0)&&(decide (gp=0)&&decide (p.length=0)))
  else if op=28 then decide (mt=0)&&(decide (gp=0)&&decide (p.length=0))
  else if op=29 then emp t&&(decide (mt=0)&&(decide (gp=0)&&onePl p))
  else emp t&&(!f&&(decide (mt=0)&&(decide (gp=0)&&decide (p.length=0)))))
def inR(r:Int×Int×Bool)(n:Nat):Bool:=r.2.2&&decide (r.1≤n)&&decide ((n:Int)≤r.2.1)
theorem inR_eq(a b:Nat)(c:Bool)(n:Nat):inR (a,b,c) n=(c&&decide (a≤n)&&decide (n≤b)):=by
 unfold inR
 have h1:((a:Int)≤(n:Int))↔a≤n:=by omega
 have h2:((n:Int)≤(b:Int))↔n≤b:=by omega
 simp only[h1,h2]
theorem in_call(s:Bool)(t:ByteArray)(n:Nat)(hn:n≤4096):inR (tcall s t) n=argsP s t n:=by
 have e1:(decide (1≤n)&&decide (n≤1))=decide (n=1):=by rw[Bool.eq_iff_iff,Bool.and_eq_true,decide_eq_true_eq,decide_eq_true_eq,decide_eq_true_eq];omega
 have e3:(decide (3≤n)&&decide (n≤3))=decide (n=3):=by rw[Bool.eq_iff_iff,Bool.and_eq_true,decide_eq_true_eq,decide_eq_true_eq,decide_eq_true_eq];omega
 have h1:inR (1,1,true) n=decide (n=1):=by have:=inR_eq 1 1 true n;rw[Bool.true_and,e1]at this;exact this
 have h3:inR (3,3,true) n=decide (n=3):=by have:=inR_eq 3 3 true n;rw[Bool.true_and,e3]at this;exact this
 have h4:inR (1,4096,true) n=decide (1≤n):=by have:=inR_eq 1 4096 true n;rw[Bool.true_and,decide_eq_true hn,Bool.and_true]at this;exact this
 have h0:inR (0,0,false) n=false:=rfl
 unfold tcall argsP
 cases s
 ·simp only[Bool.false_eq_true,if_false]
  split
  ·exact h1
  ·split
   ·next h=>rw[h4,decide_eq_true h,Bool.true_and]
   ·next h=>rw[h0,decide_eq_false h,Bool.false_and]
 ·simp only[if_true]
  split
  ·exact h1
  ·split
   ·exact h3
   ·split
    ·next h=>rw[h4,decide_eq_true h,Bool.true_and]
    ·next h=>rw[h0,decide_eq_false h,Bool.false_and]
theorem in_agg(s:Bool)(t:ByteArray)(n:Nat):inR (tagg s t) n=aggP s t n:=by
 have e1:(decide (1≤n)&&decide (n≤1))=decide (n=1):=by rw[Bool.eq_iff_iff,Bool.and_eq_true,decide_eq_true_eq,decide_eq_true_eq,decide_eq_true_eq];omega
 have h1:∀c,inR (1,1,c) n=(c&&decide (n=1)):=fun c=>by have:=inR_eq 1 1 c n;rw[Bool.and_assoc,e1]at this;exact this
 have h0:inR (0,1,true) n=decide (n≤1):=by have:=inR_eq 0 1 true n;simpa using this
 unfold tagg aggP
 by_cases c:t=n_count
 ·rw[if_pos c,if_pos c]
  simp only[c,true_or,decide_true,Bool.true_or]
  exact h0
 ·rw [if_neg c, if_neg c, h1]
  by_cases d:t=n_sum∨t=n_min∨t=n_max∨t=n_avg
  ·rw[if_pos d,decide_eq_true (.inr d),Bool.true_or,Bool.true_and]
  ·rw[if_neg d,decide_eq_false (show ¬(t=n_count∨t=n_sum∨t=n_min∨t=n_max∨t=n_avg) from fun h=>h.elim c d),Bool.false_or]
   by_cases g:t=n_collect
   ·have g2:¬(t=n_sample∨t=n_concat):=by rw[g];decide
    rw[if_pos g,decide_eq_true g,decide_eq_false g2]
    cases s<;>rfl
   ·rw[if_neg g,decide_eq_false g]
    by_cases u:t=n_sample∨t=n_concat
    ·rw[if_pos u,decide_eq_true u]
     cases s<;>rfl
    ·rw[if_neg u,decide_eq_false u]
     cases s<;>rfl
theorem own_eq(s:Bool)(op:Int)(t:ByteArray)(v:V)(f:Bool)(n:Nat)(p:List P)(mt gp:Nat)(hn:n≤4096):ownX s op t v f n p mt gp=(inR (tk3 s op t n) n&&fieldsR op t v f p mt gp):=by
 have e:∀k:Nat,(decide (k≤n)&&decide (n≤k))=decide (n=k):=fun k=>by rw[Bool.eq_iff_iff,Bool.and_eq_true,decide_eq_true_eq,decide_eq_true_eq,decide_eq_true_eq];omega
 have h0:inR (0,0,true) n=decide (n=0):=by have:=inR_eq 0 0 true n;rw[Bool.true_and,e]at this;exact this
 have h1:∀c,inR (1,1,c) n=(c&&decide (n=1)):=fun c=>by have:=inR_eq 1 1 c n;rw[Bool.and_assoc,e]at this;exact this
 have h2:∀c,inR (2,2,c) n=(c&&decide (n=2)):=fun c=>by have:=inR_eq 2 2 c n;rw[Bool.and_assoc,e]at this;exact this
 have h4:∀c,inR (0,4096,c) n=c:=fun c=>by have:=inR_eq 0 4096 c n;rw[decide_eq_true hn,decide_eq_true (Nat.zero_le n),Bool.and_true,Bool.and_true]at this;exact this
 have h27:∀c,inR (3,4096,c) n=(c&&decide (3≤n)):=fun c=>by have:=inR_eq 3 4096 c n;rw[decide_eq_true hn,Bool.and_true]at this;exact this
 have hf:inR (0,0,false) n=false:=rfl
 unfold ownX tk3 fieldsR
 rw[same_nul]
 generalize isNul v=iv
 generalize emp t=et
 by_cases o26:op=26
 ·subst o26
  simp[in_call s t n hn]
  generalize argsP s t n=a
  cases a<;>cases iv<;>cases f<;>simp[Bool.and_assoc,Bool.and_comm,Bool.and_left_comm]
 by_cases o28:op=28
 ·subst o28
  simp[in_agg s t n]
  generalize aggP s t n=a
  cases a<;>cases iv<;>simp[Bool.and_assoc,Bool.and_comm,Bool.and_left_comm]
 by_cases o1:op=1
 ·subst o1
  simp[h0]
  generalize mayV v=a
  cases a<;>cases et<;>cases f<;>simp[Bool.and_assoc,Bool.and_comm,Bool.and_left_comm]
 by_cases o2:op=2
 ·subst o2
  simp[h0]
  generalize nameB t=a
  cases a<;>cases iv<;>cases f<;>simp[Bool.and_assoc,Bool.and_comm,Bool.and_left_comm]
 by_cases o29:op=29
 ·subst o29
  rcases p with _|⟨q,_|⟨q2,p⟩⟩
  all_goals simp[h0,onePl]
  all_goals cases iv<;>cases et<;>simp[Bool.and_assoc,Bool.and_comm,Bool.and_left_comm]
 by_cases o3:op=3
 ·subst o3
  simp[h1]
  generalize decide (1≤t.size)=a
  generalize decide (t.size≤1048576)=b
  cases a<;>cases b<;>cases iv<;>cases s<;>cases f<;>simp[Bool.and_assoc,Bool.and_comm,Bool.and_left_comm]
 by_cases o4:op=4
 ·subst o4
  simp[h4]
  cases iv<;>cases et<;>cases s<;>cases f<;>simp[Bool.and_assoc,Bool.and_comm,Bool.and_left_comm]
 by_cases o16:op=16
 ·subst o16
  simp[h1]
  cases iv<;>cases et<;>simp[Bool.and_assoc,Bool.and_comm,Bool.and_left_comm]
 by_cases o5:op=5∨op=22
 ·rcases o5 with rfl|rfl
  all_goals simp[h1]
  all_goals cases iv<;>cases et<;>cases f<;>simp[Bool.and_assoc,Bool.and_comm,Bool.and_left_comm]
 by_cases o6:op=6∨op=7∨op=9∨op=10∨op=11∨op=12∨op=13∨op=14∨op=17∨op=18∨op=19∨op=20∨op=23∨op=24∨op=25
 ·rcases o6 with rfl|rfl|rfl|rfl|rfl|rfl|rfl|rfl|rfl|rfl|rfl|rfl|rfl|rfl|rfl
  all_goals simp[h2]
  all_goals cases iv<;>cases et<;>cases f<;>simp[Bool.and_assoc,Bool.and_comm,Bool.and_left_comm]
 by_cases o8:op=8∨op=21∨op=15
 ·rcases o8 with rfl|rfl|rfl
  all_goals simp[h2]
  all_goals cases iv<;>cases et<;>cases s<;>cases f<;>simp[Bool.and_assoc,Bool.and_comm,Bool.and_left_comm]
 by_cases o27:op=27
 ·subst o27
  simp[h27]
  generalize decide (n % 2=1)=a
  generalize decide (3≤n)=b
  cases a<;>cases b<;>cases iv<;>cases et<;>cases f<;>simp[Bool.and_assoc,Bool.and_comm,Bool.and_left_comm]
 have o5':¬(op=5∨op=22∨op=16):=by omega
 rw[if_neg o1,if_neg o2,if_neg o3,if_neg o4,if_neg o5',if_neg o6,if_neg o8,if_neg o26,if_neg o27,if_neg o28,if_neg o29,Bool.and_false,if_neg o26,if_neg o28,if_neg (by omega),if_neg o3,if_neg o4,if_neg o5',if_neg o6,if_neg o8,if_neg o27,hf,Bool.false_and]
theorem own_many(s:Bool)(op:Int)(t:ByteArray)(n:Nat)(hn:4096<n):inR (tk3 s op t n) n=false:=by
 have:=(tk3_le s op t n).1
 unfold inR
 rw[decide_eq_false (show ¬((n:Int)≤(tk3 s op t n).2.1) by omega),Bool.and_false]
end Go.Proofs.YtcaeipdgbaligaaGreatDoor.ex
