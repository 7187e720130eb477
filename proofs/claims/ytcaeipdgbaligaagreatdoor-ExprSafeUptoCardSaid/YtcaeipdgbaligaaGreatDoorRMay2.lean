/- Contracts of the reference's may, May: whether a value may be. -/
import Derived.Test.YtcaeipdgbaligaaGreatDoorRMay
set_option linter.unusedSimpArgs false
set_option linter.unusedVariables false
set_option maxRecDepth 100000
set_option maxHeartbeats 8000000
namespace Go.Proofs.YtcaeipdgbaligaaGreatDoor.val
open Go.ChangeShapes Go.WideShapes Go.ChangeAt Go.RowKit kit dec
def RChk(N d:Nat):Prop:=∀(w:World) (k:Int) (b:Bool) (n:Int) (t x:ByteArray) (s:Value) (l:List V),LA w N s l→t.size≤N→x.size≤N →
 Calls Tryz.prog 116 #[agg6 k b n t x s,.int .i64 ((60-d:Nat):Int)] w fun e w'=>e=.returned (.bool (chkV d (.mk k b n t x l)))∧Below w.heap.size w w'
theorem ne_b(t:ByteArray):(t.toList==[])=!(!t.toList.isEmpty):=by
 cases t.toList<;>rfl
theorem rmay_step(N deep:Nat)(hN:N≤1048576)(hd:deep≤60)(f:List V→Bool)(w:World)(k:Int)(b:Bool)(n:Int)(t x:ByteArray)(s:Value)(l:List V)(ha:LA w N s l)(ht:t.size≤N)(hx:x.size≤N)(hk5:k≠5):
 Calls Tryz.prog 116 #[agg6 k b n t x s,.int .i64 deep] w fun e w'=>e=.returned (.bool (chkW f (.mk k b n t x l)))∧Below w.heap.size w w':=by
 obtain⟨ao,cap,rfl⟩:=LA.form6 ha
 have hdi:¬(60:Int)<(deep:Int):=by omega
 have hal:Below w.heap.size w (w.alloc (.cells #[.int .i64 k,.bool b,.int .i64 n,.string t,.string x,.slice ao l.length cap] 38)):=(Below.refl _ _).alloc (Nat.le_refl _) _
 replace hal:=Hd hal
 obtain⟨R,hR0⟩:∃R,chkW f (.mk k b n t x l)=R:=⟨_,rfl⟩
 rw[hR0]
 replace hR0:=Hd hR0
 unfold agg6
 go_enter Tryz.func116,Tryz.ntmps116
 go_upto_region 9 with fail
 obtain⟨qn,hqn⟩:∃q,(n != 0)=q:=⟨_,rfl⟩
 obtain⟨qt,hqt⟩:∃q,(!t.toList.isEmpty)=q:=⟨_,rfl⟩
 obtain⟨qx,hqx⟩:∃q,(!x.toList.isEmpty)=q:=⟨_,rfl⟩
 obtain⟨ql,hql⟩:∃q,(decide (0<l.length))=q:=⟨_,rfl⟩
 have hqt2:(t.toList==[])=!qt:=by rw[ne_b,hqt]
 have hqx2:(x.toList==[])=!qx:=by rw[ne_b,hqx]
 have hqn2:=hqn
 have hql2:=hql
 rw[hqn,hqt,hqx,hql]
 clear hqt hqx
 have hqt:=Hd hqt2
 have hqx:=Hd hqx2
 replace hqn:=Hd hqn
 replace hql:=Hd hql
 clear hqn2 hql2 hqt2 hqx2
 rcases kinds k with rfl|rfl|rfl|rfl|rfl|rfl|rfl|rfl|rfl|rfl|rfl|⟨h0,h1,h2,h3,h4,h5,h6,h7,h8,h9,h10⟩
 ·clear hk5
  have hR:chkW f (.mk 0 b n t x l)=R:=hR0.out
  clear hR0
  simp only[chkW,emp_b,n0_b,l0_b,if_true,Int.reduceEq,reduceCtorEq,if_false,or_true,true_or,or_false,or_self]at hR
  simp only[hqn.out,hqt.out,hqx.out,hql.out]at hR
  cases b
  case true=>
   replace hR:=Hd hR
   go_wp2
   go_ret
   exact⟨ret_bool (by rw[←hR.out];first|rfl|simp),hal.out⟩
  cases qn
  case true=>
   replace hR:=Hd hR
   go_wp2
   go_ret
   exact⟨ret_bool (by rw[←hR.out];first|rfl|simp),hal.out⟩
  cases qt
  case true=>
   replace hR:=Hd hR
   go_wp2
   go_ret
   exact⟨ret_bool (by rw[←hR.out];first|rfl|simp),hal.out⟩
  cases qx
  case true=>
   replace hR:=Hd hR
   go_wp2
   go_ret
   exact⟨ret_bool (by rw[←hR.out];first|rfl|simp),hal.out⟩
  replace hR:=Hd hR
  go_wp2
  go_ret
  exact⟨ret_bool (by rw[←hR.out];first|rfl|simp),hal.out⟩
 ·clear hk5
  have hR:chkW f (.mk 1 b n t x l)=R:=hR0.out
  clear hR0
  simp only[chkW,emp_b,n0_b,l0_b,if_true,Int.reduceEq,reduceCtorEq,if_false,or_true,true_or,or_false,or_self]at hR
  simp only[hqn.out,hqt.out,hqx.out,hql.out]at hR
  cases qn
  case true=>
   replace hR:=Hd hR
   go_wp2
   go_ret
   exact⟨ret_bool (by rw[←hR.out];first|rfl|simp),hal.out⟩
  cases qt
  case true=>
   replace hR:=Hd hR
   go_wp2
   go_ret
   exact⟨ret_bool (by rw[←hR.out];first|rfl|simp),hal.out⟩
  cases qx
  case true=>
   replace hR:=Hd hR
   go_wp2
   go_ret
   exact⟨ret_bool (by rw[←hR.out];first|rfl|simp),hal.out⟩
  replace hR:=Hd hR
  go_wp2
  go_ret
  exact⟨ret_bool (by rw[←hR.out];first|rfl|simp),hal.out⟩
 ·clear hk5
  have hR:chkW f (.mk 2 b n t x l)=R:=hR0.out
  clear hR0
  simp only[chkW,emp_b,n0_b,l0_b,if_true,Int.reduceEq,reduceCtorEq,if_false,or_true,true_or,or_false,or_self]at hR
  simp only[hqn.out,hqt.out,hqx.out,hql.out]at hR
  cases b
  case true=>
   replace hR:=Hd hR
   go_wp2
   go_ret
   exact⟨ret_bool (by rw[←hR.out];first|rfl|simp),hal.out⟩
  cases qt
  case true=>
   replace hR:=Hd hR
   go_wp2
   go_ret
   exact⟨ret_bool (by rw[←hR.out];first|rfl|simp),hal.out⟩
  cases qx
  case true=>
   replace hR:=Hd hR
   go_wp2
   go_ret
   exact⟨ret_bool (by rw[←hR.out];first|rfl|simp),hal.out⟩
  replace hR:=Hd hR
  go_wp2
  go_ret
  exact⟨ret_bool (by rw[←hR.out];first|rfl|simp),hal.out⟩
 ·clear hk5
  have hR:chkW f (.mk 3 b n t x l)=R:=hR0.out
  clear hR0
  simp only[chkW,emp_b,n0_b,l0_b,if_true,Int.reduceEq,reduceCtorEq,if_false,or_true,true_or,or_false,or_self]at hR
  simp only[hqn.out,hqt.out,hqx.out,hql.out]at hR
  cases b
  case true=>
   replace hR:=Hd hR
   go_wp2
   go_ret
   exact⟨ret_bool (by rw[←hR.out];first|rfl|simp),hal.out⟩
  cases qn
  case true=>
   replace hR:=Hd hR
   go_wp2
   go_ret
   exact⟨ret_bool (by rw[←hR.out];first|rfl|simp),hal.out⟩
  cases qx
  case true=>
   replace hR:=Hd hR
   go_wp2
   go_ret
   exact⟨ret_bool (by rw[←hR.out];first|rfl|simp),hal.out⟩
  cases ql
  case true=>
   replace hR:=Hd hR
   go_wp2
   go_ret
   exact⟨ret_bool (by rw[←hR.out];first|rfl|simp),hal.out⟩
  have hck:=fun W=>Hd (rcheck_big t W (by omega))
  replace hR:=Hd hR
  go_wp2_with fail
  refine((hck _).out).mono ?_
  rintro e w3 ⟨rfl,hb3⟩
  have hal3:=Hd (hal.out.trans (hb3.mono hal.out.size))
  clear hb3 hal
  go_wp2
  go_ret
  exact⟨ret_bool (by rw[←hR.out];first|rfl|simp),hal3.out⟩
 ·clear hk5
  have hR:chkW f (.mk 4 b n t x l)=R:=hR0.out
  clear hR0
  simp only[chkW,emp_b,n0_b,l0_b,if_true,Int.reduceEq,reduceCtorEq,if_false,or_true,true_or,or_false,or_self]at hR
  simp only[hqn.out,hqt.out,hqx.out,hql.out]at hR
  have hti:(t.size:Int)≤1048576:=by omega
  rw[decide_eq_true (by omega:t.size≤1048576)]at hR
  cases b
  case true=>
   replace hR:=Hd hR
   go_wp2
   go_ret
   exact⟨ret_bool (by rw[←hR.out];first|rfl|simp),hal.out⟩
  cases qn
  case true=>
   replace hR:=Hd hR
   go_wp2
   go_ret
   exact⟨ret_bool (by rw[←hR.out];first|rfl|simp),hal.out⟩
  cases qx
  case true=>
   replace hR:=Hd hR
   go_wp2
   go_ret
   exact⟨ret_bool (by rw[←hR.out];first|rfl|simp),hal.out⟩
  cases ql
  case true=>
   replace hR:=Hd hR
   go_wp2
   go_ret
   exact⟨ret_bool (by rw[←hR.out];first|rfl|simp),hal.out⟩
  replace hR:=Hd hR
  go_wp2
  go_ret
  exact⟨ret_bool (by rw[←hR.out];first|rfl|simp),hal.out⟩
 ·exact absurd rfl hk5
 ·clear hk5
  have hR:chkW f (.mk 6 b n t x l)=R:=hR0.out
  clear hR0
  simp only[chkW,emp_b,n0_b,l0_b,if_true,Int.reduceEq,reduceCtorEq,if_false,or_true,true_or,or_false,or_self]at hR
  simp only[hqn.out,hqt.out,hqx.out,hql.out]at hR
  cases b
  case true=>
   replace hR:=Hd hR
   go_wp2
   go_ret
   exact⟨ret_bool (by rw[←hR.out];first|rfl|simp),hal.out⟩
  by_cases hn0:0≤n
  case neg=>
   rw[decide_eq_false hn0]at hR
   replace hR:=Hd hR
   go_wp2
   go_ret
   exact⟨ret_bool (by rw[←hR.out];first|rfl|simp),hal.out⟩
  rw[decide_eq_true hn0]at hR
  cases qt
  case true=>
   replace hR:=Hd hR
   go_wp2
   go_ret
   exact⟨ret_bool (by rw[←hR.out];first|rfl|simp),hal.out⟩
  cases qx
  case true=>
   replace hR:=Hd hR
   go_wp2
   go_ret
   exact⟨ret_bool (by rw[←hR.out];first|rfl|simp),hal.out⟩
  replace hR:=Hd hR
  go_wp2
  go_ret
  exact⟨ret_bool (by rw[←hR.out];first|rfl|simp),hal.out⟩
 ·clear hk5
  have hR:chkW f (.mk 7 b n t x l)=R:=hR0.out
  clear hR0
  simp only[chkW,emp_b,n0_b,l0_b,if_true,Int.reduceEq,reduceCtorEq,if_false,or_true,true_or,or_false,or_self]at hR
  simp only[hqn.out,hqt.out,hqx.out,hql.out]at hR
  cases b
  case true=>
   replace hR:=Hd hR
   go_wp2
   go_ret
   exact⟨ret_bool (by rw[←hR.out];first|rfl|simp),hal.out⟩
  by_cases hn0:0≤n
  case neg=>
   rw[decide_eq_false hn0]at hR
   replace hR:=Hd hR
   go_wp2
   go_ret
   exact⟨ret_bool (by rw[←hR.out];first|rfl|simp),hal.out⟩
  rw[decide_eq_true hn0]at hR
  cases qt
  case true=>
   replace hR:=Hd hR
   go_wp2
   go_ret
   exact⟨ret_bool (by rw[←hR.out];first|rfl|simp),hal.out⟩
  cases qx
  case true=>
   replace hR:=Hd hR
   go_wp2
   go_ret
   exact⟨ret_bool (by rw[←hR.out];first|rfl|simp),hal.out⟩
  replace hR:=Hd hR
  go_wp2
  go_ret
  exact⟨ret_bool (by rw[←hR.out];first|rfl|simp),hal.out⟩
 ·clear hk5
  have hR:chkW f (.mk 8 b n t x l)=R:=hR0.out
  clear hR0
  simp only[chkW,emp_b,n0_b,l0_b,if_true,Int.reduceEq,reduceCtorEq,if_false,or_true,true_or,or_false,or_self]at hR
  simp only[hqn.out,hqt.out,hqx.out,hql.out]at hR
  cases b
  case true=>
   replace hR:=Hd hR
   go_wp2
   go_ret
   exact⟨ret_bool (by rw[←hR.out];first|rfl|simp),hal.out⟩
  cases qn
  case true=>
   replace hR:=Hd hR
   go_wp2
   go_ret
   exact⟨ret_bool (by rw[←hR.out];first|rfl|simp),hal.out⟩
  cases qx
  case true=>
   replace hR:=Hd hR
   go_wp2
   go_ret
   exact⟨ret_bool (by rw[←hR.out];first|rfl|simp),hal.out⟩
  cases ql
  case true=>
   replace hR:=Hd hR
   go_wp2
   go_ret
   exact⟨ret_bool (by rw[←hR.out];first|rfl|simp),hal.out⟩
  have hck:=fun W=>Hd (riri_any t W (by omega))
  replace hR:=Hd hR
  go_wp2_with fail
  refine((hck _).out).mono ?_
  rintro e w3 ⟨rfl,hw3⟩
  rw[hw3]
  clear hw3
  go_wp2
  go_ret
  exact⟨ret_bool (by rw[←hR.out];first|rfl|simp),hal.out⟩
 ·clear hk5
  have hR:chkW f (.mk 9 b n t x l)=R:=hR0.out
  clear hR0
  simp only[chkW,emp_b,n0_b,l0_b,if_true,Int.reduceEq,reduceCtorEq,if_false,or_true,true_or,or_false,or_self]at hR
  simp only[hqn.out,hqt.out,hqx.out,hql.out]at hR
  cases b
  case true=>
   replace hR:=Hd hR
   go_wp2
   go_ret
   exact⟨ret_bool (by rw[←hR.out];first|rfl|simp),hal.out⟩
  cases qn
  case true=>
   replace hR:=Hd hR
   go_wp2
   go_ret
   exact⟨ret_bool (by rw[←hR.out];first|rfl|simp),hal.out⟩
  cases qx
  case true=>
   replace hR:=Hd hR
   go_wp2
   go_ret
   exact⟨ret_bool (by rw[←hR.out];first|rfl|simp),hal.out⟩
  cases ql
  case true=>
   replace hR:=Hd hR
   go_wp2
   go_ret
   exact⟨ret_bool (by rw[←hR.out];first|rfl|simp),hal.out⟩
  have hck:=fun W=>Hd (rname_any t W (by omega))
  replace hR:=Hd hR
  go_wp2_with fail
  refine((hck _).out).mono ?_
  rintro e w3 ⟨rfl,hw3⟩
  rw[hw3]
  clear hw3
  go_wp2
  go_ret
  exact⟨ret_bool (by rw[←hR.out];first|rfl|simp),hal.out⟩
 ·clear hk5
  have hR:chkW f (.mk 10 b n t x l)=R:=hR0.out
  clear hR0
  simp only[chkW,emp_b,n0_b,l0_b,if_true,Int.reduceEq,reduceCtorEq,if_false,or_true,true_or,or_false,or_self]at hR
  simp only[hqn.out,hqt.out,hqx.out,hql.out]at hR
  have hti:(t.size:Int)≤1048576:=by omega
  rw[decide_eq_true (by omega:t.size≤1048576)]at hR
  cases b
  case true=>
   replace hR:=Hd hR
   go_wp2
   go_ret
   exact⟨ret_bool (by rw[←hR.out];first|rfl|simp),hal.out⟩
  cases qn
  case true=>
   replace hR:=Hd hR
   go_wp2
   go_ret
   exact⟨ret_bool (by rw[←hR.out];first|rfl|simp),hal.out⟩
  cases ql
  case true=>
   replace hR:=Hd hR
   go_wp2
   go_ret
   exact⟨ret_bool (by rw[←hR.out];first|rfl|simp),hal.out⟩
  have hck:=fun W=>Hd (riri_any x W (by omega))
  replace hR:=Hd hR
  go_wp2_with fail
  refine((hck _).out).mono ?_
  rintro e w3 ⟨rfl,hw3⟩
  rw[hw3]
  clear hw3
  go_wp2
  go_ret
  exact⟨ret_bool (by rw[←hR.out];first|rfl|simp),hal.out⟩
 ·have hR:Hid (false=R):=Hd (by rw[←hR0.out,chkW_other f k h0 h1 h2 h3 h4 h5 h6 h7 h8 h9 h10])
  clear hR0 hk5
  have q0:(k==0)=false:=by simpa using h0
  have q1:(k==1)=false:=by simpa using h1
  have q2:(k==2)=false:=by simpa using h2
  have q3:(k==3)=false:=by simpa using h3
  have q4:(k==4)=false:=by simpa using h4
  have q5:(k==5)=false:=by simpa using h5
  have q6:(k==6)=false:=by simpa using h6
  have q7:(k==7)=false:=by simpa using h7
  have q8:(k==8)=false:=by simpa using h8
  have q9:(k==9)=false:=by simpa using h9
  have q10:(k==10)=false:=by simpa using h10
  clear h0 h1 h2 h3 h4 h5 h6 h7 h8 h9 h10
  go_wp2
  go_ret
  exact⟨ret_bool hR.out,hal.out⟩
theorem list5(f:List V→Bool)(b:Bool)(n:Int)(t x:ByteArray)(l:List V):chkW f (.mk 5 b n t x l)=(!b&&decide (n=0)&&emp t&&emp x&&decide (l.length≤4096)&&f l):=by
 simp[chkW]
theorem rmay_list(N d:Nat)(hN:N≤1048576)(hd:d≤60)(hc:∀d',d=d'+1→RChk N d')(w:World)(b:Bool)(n:Int)(t x:ByteArray)(s:Value)(l:List V)(ha:LA w N s l)(ht:t.size≤N)(hx:x.size≤N):
 Calls Tryz.prog 116 #[agg6 5 b n t x s,.int .i64 ((60-d:Nat):Int)] w fun e w'=>e=.returned (.bool (chkV d (.mk 5 b n t x l)))∧Below w.heap.size w w':=by
 obtain⟨ao,cap,rfl⟩:=LA.form6 ha
 have hal:Below w.heap.size w (w.alloc (.cells #[.int .i64 5,.bool b,.int .i64 n,.string t,.string x,.slice ao l.length cap] 38)):=(Below.refl _ _).alloc (Nat.le_refl _) _
 have hblk:=Blk.new w #[.int .i64 5,.bool b,.int .i64 n,.string t,.string x,.slice ao l.length cap] 38
 obtain⟨f,hf,hf0,hf1⟩:∃f:List V→Bool,chkV d=chkW f∧(d=0→f=fun _=>false)∧(∀d',d=d'+1→f=fun l=>l.all (chkV d')):=by
  cases d with
  |zero=>exact⟨_,rfl,fun _=>rfl,fun d' h=>by omega⟩
  |succ d=>exact⟨_,rfl,fun h=>by omega,fun d' h=>by obtain rfl:d=d':=(by omega);rfl⟩
 rw[hf,list5]
 obtain⟨dp,hdp⟩:∃dp:Nat,60-d=dp:=⟨_,rfl⟩
 rw[hdp]
 have hdi:¬(60:Int)<(dp:Int):=by omega
 have hel0:=Hd (ha.elems _ _ _ rfl)
 clear ha
 obtain⟨R,hR⟩:∃R,(!b&&decide (n=0)&&emp t&&emp x&&decide (l.length≤4096)&&f l)=R:=⟨_,rfl⟩
 rw[hR]
 rw[emp_b,emp_b,n0_b]at hR
 replace hR:=Hd hR
 replace hal:=Hd hal
 replace hblk:=Hd hblk
 replace hf0:=Hd hf0
 replace hf1:=Hd hf1
 replace hc:=Hd hc
 unfold agg6
 go_enter Tryz.func116,Tryz.ntmps116
 go_upto_region 9 with fail
 obtain⟨qn,hqn⟩:∃q,(n != 0)=q:=⟨_,rfl⟩
 obtain⟨qt,hqt⟩:∃q,(!t.toList.isEmpty)=q:=⟨_,rfl⟩
 obtain⟨qx,hqx⟩:∃q,(!x.toList.isEmpty)=q:=⟨_,rfl⟩
 have hR1:=hR.out
 rw[ne_b t,ne_b x,hqt,hqx,hqn]at hR1
 rw[hqn,hqt,hqx]
 clear hqt hqx hqn hR
 have hR:=hR1
 clear hR1
 cases b
 case true=>
  replace hR:=Hd hR
  go_wp2
  go_ret
  exact⟨ret_bool (by rw[←hR.out];first|rfl|simp),hal.out⟩
 cases qn
 case true=>
  replace hR:=Hd hR
  go_wp2
  go_ret
  exact⟨ret_bool (by rw[←hR.out];first|rfl|simp),hal.out⟩
 cases qt
 case true=>
  replace hR:=Hd hR
  go_wp2
  go_ret
  exact⟨ret_bool (by rw[←hR.out];first|rfl|simp),hal.out⟩
 cases qx
 case true=>
  replace hR:=Hd hR
  go_wp2
  go_ret
  exact⟨ret_bool (by rw[←hR.out];first|rfl|simp),hal.out⟩
 by_cases hl:4096<l.length
 case pos=>
  have hli:(4096:Int)<(l.length:Int):=by omega
  rw[decide_eq_false (by omega:¬l.length≤4096)]at hR
  replace hR:=Hd hR
  go_wp2
  go_ret
  exact⟨ret_bool (by rw[←hR.out];first|rfl|simp),hal.out⟩
 have hli:¬(4096:Int)<(l.length:Int):=by omega
 rw[decide_eq_true (by omega:l.length≤4096)]at hR
 by_cases hd0:d=0
 case pos=>
  have hdq:(60:Int)<(dp:Int)+1:=by omega
  rw[hf0.out hd0]at hR
  replace hR:=Hd hR
  go_wp2
  go_ret
  exact⟨ret_bool (by rw[←hR.out];first|rfl|simp),hal.out⟩
 obtain⟨d',hd'⟩:∃d',d=d'+1:=⟨d-1,by omega⟩
 have hdq:¬(60:Int)<(dp:Int)+1:=by omega
 have hch:=hc.out d' hd'
 have hR2:l.all (chkV d')=R:=by
  rw[hf1.out d' hd']at hR
  simpa using hR
 unfold RChk at hch
 rw[show((60-d':Nat):Int)=(dp:Int)+1 by omega]at hch
 replace hch:=Hd hch
 replace hR2:=Hd hR2
 clear hR hf0 hf1 hc hd' hdp hf hd0
 go_wp2
 go_loopw [10] (fun v wr=>∃k:Nat,k≤l.length∧v=.int .i64 k∧Hid (Below w.heap.size w wr)∧Hid (Blk wr w.heap.size #[.int .i64 5,.bool false,.int .i64 n,.string t,.string x,.slice ao l.length cap] 38)∧Hid (∀j (hj:j<l.length),j<k→chkV d' l[j]=true)) (fun v _=>l.length-(intOf v).toNat)
 case atStart=>exact⟨0,by omega,rfl,hal,hblk,fun j _ h=>by omega⟩
 case round =>
  clear hal hblk
  obtain⟨k,hk,rfl,hb,hbk,hall⟩:=hrel
  have x5:=hbk.out.cell 5 rfl
  by_cases hlt:k<l.length
  ·have hki:(k:Int)<(l.length:Int):=by omega
   have hel:=(hel0.out.2 k hlt).stay hb.out
   rw[Nat.mul_comm 6 k]at hel
   have hRk:∀c,chkV d' l[k]=c→(c=false→false=R)∧(c=true→∀j (hj:j<l.length),j<k+1→chkV d' l[j]=true):=fun c h=>by
    refine⟨fun e=>?_,fun e j hj hjk=>?_⟩
    ·rw[←hR2.out]
     symm
     rw[List.all_eq_false]
     exact⟨l[k],List.getElem_mem hlt,by rw[h,e];decide⟩
    ·rcases Nat.lt_or_ge j k with h1|h1
     ·exact hall.out j hj h1
     ·obtain rfl:j=k:=by omega
      rw[h];exact e
   generalize l[k]'hlt=v at hel hRk
   cases hel with
   | mk b1 off o k1 bo n1 t1 x1 l1 s hr hk1 hn1 ht1 hx1 hsl =>
    obtain⟨aoE,capE,rfl⟩:=LA.form6 hsl
    obtain⟨z0,z1,z2,z3,z4,z5⟩:=hr.six
    have hcall:=hch.out wr k1 bo n1 t1 x1 _ l1 hsl ht1 hx1
    generalize chkV d' (.mk k1 bo n1 t1 x1 l1)=c at *
    have hRk2:=Hd (hRk c rfl)
    unfold agg6 at hcall
    replace hcall:=Hd hcall
    clear hRk hr hsl hall
    go_wp2_with fail
    refine hcall.out.mono ?_
    rintro e w2 ⟨rfl,hb2⟩
    have hb3:=Hd (hb.out.trans (hb2.mono hb.out.size))
    have hbk3:=Hd (hbk.out.keep (Keep.ofBelow hb2) (by simp))
    clear hb2 hcall hb hbk x5 z0 z1 z2 z3 z4 z5
    cases c
    ·have hRf:=hRk2.out.1 (by simp)
     replace hRf:=Hd hRf
     clear hRk2
     go_wp2
     go_ret
     exact⟨ret_bool hRf.out,hb3.out⟩
    ·have hnx:=Hd (hRk2.out.2 (by simp))
     clear hRk2
     go_wp2
     go_roundw
     case rel=>exact⟨k+1,by omega,by go_num,hb3,hbk3,hnx⟩
     case measure=>simp[intOf];omega
  ·have hki:¬(k:Int)<(l.length:Int):=by omega
   obtain rfl:k=l.length:=by omega
   have hRf:true=R:=by
    rw[←hR2.out];symm
    rw[List.all_eq_true]
    intro v hv
    obtain⟨j,hj,rfl⟩:=List.getElem_of_mem hv
    exact hall.out j hj hj
   replace hRf:=Hd hRf
   go_wp2
   go_ret
   exact⟨ret_bool hRf.out,hb.out⟩
theorem rmay_all(N:Nat)(hN:N≤1048576):∀d,d≤60→RChk N d:=by
 intro d
 induction d with
 | zero =>
  intro hd w k b n t x s l ha ht hx
  by_cases hk:k=5
  ·subst hk
   exact rmay_list N 0 hN hd (fun d' h=>by omega) w b n t x s l ha ht hx
  ·exact rmay_step N (60-0) hN (by omega) _ w k b n t x s l ha ht hx hk
 | succ d ih =>
  intro hd w k b n t x s l ha ht hx
  by_cases hk:k=5
  ·subst hk
   exact rmay_list N (d+1) hN hd (fun d' h=>by obtain rfl:d=d':=(by omega);exact ih (by omega)) w b n t x s l ha ht hx
  ·exact rmay_step N (60-(d+1)) hN (by omega) _ w k b n t x s l ha ht hx hk
theorem rMay_call(N:Nat)(hN:N≤1048576)(w:World)(k:Int)(b:Bool)(n:Int)(t x:ByteArray)(s:Value)(l:List V)(ha:LA w N s l)(ht:t.size≤N)(hx:x.size≤N):
 Calls Tryz.prog 79 #[agg6 k b n t x s] w fun e w'=>e=.returned (.bool (mayV (.mk k b n t x l)))∧Below w.heap.size w w':=by
 have hal:Below w.heap.size w (w.alloc (.cells #[.int .i64 k,.bool b,.int .i64 n,.string t,.string x,s] 38)):=(Below.refl _ _).alloc (Nat.le_refl _) _
 have hcl:=rmay_all N hN 60 (Nat.le_refl _) _ k b n t x s l (ha.stay hal) ht hx
 unfold mayV
 generalize chkV 60 (.mk k b n t x l)=c at *
 rw[show((60-60:Nat):Int)=0 from rfl]at hcl
 unfold agg6 at hcl ⊢
 replace hcl:=Hd hcl
 clear ha
 go_enter Tryz.func79,Tryz.ntmps79
 go_wp2_with fail
 refine hcl.out.mono ?_
 rintro e w2 ⟨rfl,hb2⟩
 go_wp2
 go_ret
 exact⟨rfl,hal.trans (hb2.mono hal.size)⟩
end Go.Proofs.YtcaeipdgbaligaaGreatDoor.val
