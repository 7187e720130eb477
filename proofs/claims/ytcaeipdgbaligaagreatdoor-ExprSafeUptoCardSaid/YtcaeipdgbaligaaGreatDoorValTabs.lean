/- Texts ValSpA, ValTabs, one behind the other. -/
import Derived.Test.YtcaeipdgbaligaaGreatDoorDecA
import Derived.Deep.DeepCutAuto
set_option linter.unusedSimpArgs false
set_option linter.unusedVariables false
set_option maxRecDepth 100000
set_option maxHeartbeats 1000000
namespace Go.Proofs.YtcaeipdgbaligaaGreatDoor.val
open Go.RowKit dec
def letterC(c:Nat):Bool:=decide ((97≤c∧c≤122)∨(65≤c∧c≤90)∨c=95)
def nameC(i c:Nat):Bool:=letterC c||(decide (i≠0)&&decide (48≤c∧c≤57))
def nameB(s:ByteArray):Bool:=decide (1≤s.size∧s.size≤64∧∀i (h:i<s.size),nameC i s[i].toNat=true)
def iriC(c:Nat):Bool:=decide (32<c∧c≠60∧c≠62)
def iriB(s:ByteArray):Bool:=decide (1≤s.size∧s.size≤1048576∧∀i (h:i<s.size),iriC s[i].toNat=true)
def emp(s:ByteArray):Bool:=decide (s.size=0)
def chkW(f:List V→Bool):V→Bool
 |.mk k b n t x l=>
  if k=0 then !b&&decide (n=0)&&emp t&&emp x&&decide (l.length=0)
  else if k=1 then decide (n=0)&&emp t&&emp x&&decide (l.length=0)
  else if k=2 then !b&&emp t&&emp x&&decide (l.length=0)
  else if k=3 then !b&&decide (n=0)&&emp x&&decide (l.length=0)&&chk t.data.toList
  else if k=4 then !b&&decide (n=0)&&emp x&&decide (l.length=0)&&decide (t.size≤1048576)
  else if k=5 then !b&&decide (n=0)&&emp t&&emp x&&decide (l.length≤4096)&&f l
  else if k=6∨k=7 then !b&&decide (0≤n)&&emp t&&emp x&&decide (l.length=0)
  else if k=8 then !b&&decide (n=0)&&emp x&&decide (l.length=0)&&iriB t
  else if k=9 then !b&&decide (n=0)&&emp x&&decide (l.length=0)&&nameB t
  else if k=10 then !b&&decide (n=0)&&decide (l.length=0)&&decide (t.size≤1048576)&&iriB x
  else false
def chkV:Nat→V→Bool
 |0=>chkW (fun _=>false)
 |d+1=>chkW (fun l=>l.all (chkV d))
open Go.ChangeShapes Go.WideShapes Go.ChangeAt kit
theorem letterC_iff(n:Nat):letterC n=true↔(97≤n∧n≤122)∨(65≤n∧n≤90)∨n=95:=by unfold letterC;exact decide_eq_true_iff
theorem iriC_iff(n:Nat):iriC n=true↔32<n∧n≠60∧n≠62:=by unfold iriC;exact decide_eq_true_iff
theorem nameC_iff(i n:Nat):nameC i n=true↔((97≤n∧n≤122)∨(65≤n∧n≤90)∨n=95)∨(i≠0∧48≤n∧n≤57):=by
 unfold nameC
 rw[Bool.or_eq_true,letterC_iff,Bool.and_eq_true,decide_eq_true_iff,decide_eq_true_iff]
theorem nameB_iff(s:ByteArray):nameB s=true↔1≤s.size∧s.size≤64∧∀i (h:i<s.size),nameC i s[i].toNat=true:=by unfold nameB;exact decide_eq_true_iff
theorem iriB_iff(s:ByteArray):iriB s=true↔1≤s.size∧s.size≤1048576∧∀i (h:i<s.size),iriC s[i].toNat=true:=by unfold iriB;exact decide_eq_true_iff
theorem iri_any (s : ByteArray) (w : World) (hs : s.size ≤ 9223372036854775807) : Calls Tryz.prog 97 #[.string s] w fun e w' => e = .returned (.bool (iriB s)) ∧ w' = w := by
 obtain⟨R,hR⟩:∃R,iriB s=R:=⟨_,rfl⟩
 rw[hR]
 replace hR:=Hd hR
 go_enter Tryz.func97,Tryz.ntmps97
 go_wp2
 go_loop [6] (fun v=>∃k:Nat,k≤s.size∧v=.int .i64 k∧Hid (∀i (h:i<s.size),i<k→iriC s[i].toNat=true)) (fun v=>s.size-(intOf v).toNat)
 case atStart=>exact⟨0,by omega,rfl,fun i _ h=>by omega⟩
 case round =>
  obtain⟨k,hk,rfl,hi⟩:=hrel
  by_cases hlt:k<s.size
  ·have hki : (k : Int) < (s.size : Int) := by omega
   obtain⟨n,hn⟩:∃n,(s[k]'hlt).toNat=n:=⟨_,rfl⟩
   have hn2:=Hd hn
   by_cases h1:n≤32
   ·have h1i:(n:Int)≤32:=by omega
    obtain rfl:R=false:=by
     rw[←hR.out];apply Bool.eq_false_iff.2;intro h
     have:=(iriC_iff _).1 (((iriB_iff s).1 h).2.2 k hlt)
     rw[hn2.out]at this;omega
    go_wp2
    go_ret
    exact⟨rfl,rfl⟩
   ·have h1i:¬(n:Int)≤32:=by omega
    by_cases h2:n=60
    ·subst h2
     obtain rfl:R=false:=by
      rw[←hR.out];apply Bool.eq_false_iff.2;intro h
      have:=(iriC_iff _).1 (((iriB_iff s).1 h).2.2 k hlt)
      rw[hn2.out]at this;omega
     go_wp2
     go_ret
     exact⟨rfl,rfl⟩
    ·have h2i:((n:Int)==60)=false:=beq_eq_false_iff_ne.2 (by omega)
     by_cases h3:n=62
     ·subst h3
      obtain rfl:R=false:=by
       rw[←hR.out];apply Bool.eq_false_iff.2;intro h
       have:=(iriC_iff _).1 (((iriB_iff s).1 h).2.2 k hlt)
       rw[hn2.out]at this;omega
      go_wp2
      go_ret
      exact⟨rfl,rfl⟩
     ·have h3i:((n:Int)==62)=false:=beq_eq_false_iff_ne.2 (by omega)
      have hnx:∀i (h:i<s.size),i<k+1→iriC s[i].toNat=true:=fun i h hi1=>by
       rcases Nat.lt_or_ge i k with e|e
       ·exact hi.out i h e
       ·obtain rfl:i=k:=by omega
        rw[hn2.out];exact(iriC_iff _).2 ⟨by omega,h2,h3⟩
      replace hnx:=Hd hnx
      clear hi
      go_wp2
      refine⟨⟨k+1,by omega,by go_num,hnx⟩,?_⟩
      simp only[intOf];omega
  ·have hki:¬(k:Int)<(s.size:Int):=by omega
   obtain rfl:k=s.size:=by omega
   by_cases h1:1≤s.size
   ·have h1i:(1:Int)≤(s.size:Int):=by omega
    by_cases h2:s.size≤1048576
    ·have h2i:(s.size:Int)≤1048576:=by omega
     obtain rfl:R=true:=by rw[←hR.out];exact(iriB_iff s).2 ⟨h1,h2,fun i h=>hi.out i h h⟩
     go_wp2
     go_ret
     exact⟨rfl,rfl⟩
    ·have h2i:¬(s.size:Int)≤1048576:=by omega
     obtain rfl:R=false:=by rw[←hR.out];apply Bool.eq_false_iff.2;intro h;exact h2 ((iriB_iff s).1 h).2.1
     go_wp2
     go_ret
     exact⟨rfl,rfl⟩
   ·have h1i:¬(1:Int)≤(s.size:Int):=by omega
    obtain rfl:R=false:=by rw[←hR.out];apply Bool.eq_false_iff.2;intro h;exact h1 ((iriB_iff s).1 h).1
    go_wp2
    go_ret
    exact⟨rfl,rfl⟩
theorem name_any(s:ByteArray)(w:World)(hs:s.size≤9223372036854775807):Calls Tryz.prog 98 #[.string s] w fun e w'=>e=.returned (.bool (nameB s))∧w'=w:=by
 obtain⟨R,hR⟩:∃R,nameB s=R:=⟨_,rfl⟩
 rw[hR]
 replace hR:=Hd hR
 go_enter Tryz.func98,Tryz.ntmps98
 go_wp2
 go_loop [8] (fun v=>∃k:Nat,k≤s.size∧v=.int .i64 k∧Hid (∀i (h:i<s.size),i<k→nameC i s[i].toNat=true)) (fun v=>s.size-(intOf v).toNat)
 case atStart=>exact⟨0,by omega,rfl,fun i _ h=>by omega⟩
 case round =>
  obtain⟨k,hk,rfl,hi⟩:=hrel
  by_cases hlt:k<s.size
  ·have hki:(k:Int)<(s.size:Int):=by omega
   obtain⟨n,hn⟩:∃n,(s[k]'hlt).toNat=n:=⟨_,rfl⟩
   have hn2:=Hd hn
   obtain⟨q,hq⟩:∃q,letterC n=q:=⟨_,rfl⟩
   replace hq:=Hd hq
   go_upto_region 5 with(fail)
   go_cut [5] (fun v wx=>v=.bool q∧wx=w)
   case first=>
    as_aux_lemma=>
     clear hR hi
     by_cases a1:97≤n<;>by_cases a2:n≤122<;>by_cases a3:65≤n<;>by_cases a4:n≤90<;>by_cases a5:n=95
     all_goals first
      |(exfalso;omega)
      |skip
     all_goals
      first
      |(have g1:(97:Int)≤(n:Int):=by omega)|(have g1:¬(97:Int)≤(n:Int):=by omega)
     all_goals
      first
      |(have g2:(n:Int)≤122:=by omega)|(have g2:¬(n:Int)≤122:=by omega)
     all_goals
      first
      |(have g3:(65:Int)≤(n:Int):=by omega)|(have g3:¬(65:Int)≤(n:Int):=by omega)
     all_goals
      first
      |(have g4:(n:Int)≤90:=by omega)|(have g4:¬(n:Int)≤90:=by omega)
     all_goals
      first
      |(have g5:((n:Int)==95)=true:=by rw[show n=95 by omega];rfl)|(have g5:((n:Int)==95)=false:=beq_eq_false_iff_ne.2 (by omega))
     all_goals
      replace a5:=Hd a5
      go_wp2
     all_goals
      go_meet
     all_goals
      exact⟨congrArg _ (by have:=a5.out;rw[←hq.out];unfold letterC;first|exact(decide_eq_true (by omega)).symm|exact(decide_eq_false (by omega)).symm),rfl⟩
   obtain⟨rfl,hwx⟩:=hcut
   rw[hwx];clear hwx
   have hbad:nameC k n=false→R=false:=fun h=>by
    rw[←hR.out];apply Bool.eq_false_iff.2;intro h1
    have:=((nameB_iff s).1 h1).2.2 k hlt
    rw[hn2.out,h]at this;cases this
   have hnx:nameC k n=true→∀i (h:i<s.size),i<k+1→nameC i s[i].toNat=true:=fun h i h1 h2=>by
    rcases Nat.lt_or_ge i k with e|e
    ·exact hi.out i h1 e
    ·obtain rfl:i=k:=by omega
     rw[hn2.out];exact h
   clear hi
   cases q
   ·have hql:¬((97≤n∧n≤122)∨(65≤n∧n≤90)∨n=95):=fun h=>by
     have:=(letterC_iff n).2 h
     rw[hq.out]at this;cases this
    by_cases hk0:k=0
    ·subst hk0
     obtain rfl:=hbad (by apply Bool.eq_false_iff.2;intro h;have:=(nameC_iff 0 n).1 h;omega)
     clear hnx hbad
     go_wp2
     go_ret
     exact⟨rfl,rfl⟩
    ·have hk0i:((k:Int)==0)=false:=beq_eq_false_iff_ne.2 (by omega)
     by_cases h1:n<48
     ·have h1i:(n:Int)<48:=by omega
      obtain rfl:=hbad (by apply Bool.eq_false_iff.2;intro h;have:=(nameC_iff k n).1 h;omega)
      clear hnx hbad
      go_wp2
      go_ret
      exact⟨rfl,rfl⟩
     ·have h1i:¬(n:Int)<48:=by omega
      by_cases h2:57<n
      ·have h2i:(57:Int)<(n:Int):=by omega
       obtain rfl:=hbad (by apply Bool.eq_false_iff.2;intro h;have:=(nameC_iff k n).1 h;omega)
       clear hnx hbad
       go_wp2
       go_ret
       exact⟨rfl,rfl⟩
      ·have h2i:¬(57:Int)<(n:Int):=by omega
       replace hnx:=Hd (hnx ((nameC_iff k n).2 (.inr ⟨hk0,by omega,by omega⟩)))
       clear hbad
       go_wp2
       refine⟨⟨k+1,by omega,by go_num,hnx⟩,?_⟩
       simp only[intOf];omega
   ·replace hnx:=Hd (hnx ((nameC_iff k n).2 (.inl ((letterC_iff n).1 hq.out))))
    clear hbad
    go_wp2
    refine⟨⟨k+1,by omega,by go_num,hnx⟩,?_⟩
    simp only[intOf];omega
  ·have hki:¬(k:Int)<(s.size:Int):=by omega
   obtain rfl:k=s.size:=by omega
   by_cases h1:1≤s.size
   ·have h1i:(1:Int)≤(s.size:Int):=by omega
    by_cases h2:s.size≤64
    ·have h2i:(s.size:Int)≤64:=by omega
     obtain rfl:R=true:=by rw[←hR.out];exact(nameB_iff s).2 ⟨h1,h2,fun i h=>hi.out i h h⟩
     go_wp2
     go_ret
     exact⟨rfl,rfl⟩
    ·have h2i:¬(s.size:Int)≤64:=by omega
     obtain rfl:R=false:=by rw[←hR.out];apply Bool.eq_false_iff.2;intro h;exact h2 ((nameB_iff s).1 h).2.1
     go_wp2
     go_ret
     exact⟨rfl,rfl⟩
   ·have h1i:¬(1:Int)≤(s.size:Int):=by omega
    obtain rfl:R=false:=by rw[←hR.out];apply Bool.eq_false_iff.2;intro h;exact h1 ((nameB_iff s).1 h).1
    go_wp2
    go_ret
    exact⟨rfl,rfl⟩
end Go.Proofs.YtcaeipdgbaligaaGreatDoor.val
set_option linter.unusedSimpArgs false
set_option linter.unusedVariables false
set_option maxRecDepth 100000
set_option maxHeartbeats 1000000
namespace Go.Proofs.YtcaeipdgbaligaaGreatDoor.val
open Go.ChangeShapes Go.WideShapes Go.ChangeAt Go.RowKit kit
def partV(k:Int)(b:Bool)(n:Int)(t x:ByteArray)(s:Value):Value:=
 if k=0 then .iface 148 (.agg #[]) else if k=1 then .iface 149 (.bool b) else if k=2 then .iface 150 (.int .i64 n) else if k=3 then .iface 151 (.string t)
 else if k=4∨k=8∨k=9 then .iface 152 (.string t) else if k=5 then .iface 153 s else if k=6∨k=7 then .iface 155 (.int .i64 n)
 else if k=10 then .iface 157 (.agg #[.string t,.string x]) else .iface 158 (.int .i64 k)
theorem kinds(k:Int):k=0∨k=1∨k=2∨k=3∨k=4∨k=5∨k=6∨k=7∨k=8∨k=9∨k=10∨(k≠0∧k≠1∧k≠2∧k≠3∧k≠4∧k≠5∧k≠6∧k≠7∧k≠8∧k≠9∧k≠10):=by omega
theorem part_any(k:Int)(b:Bool)(n:Int)(t x:ByteArray)(s:Value)(w:World):Calls Tryz.prog 95 #[agg6 k b n t x s] w fun e w'=>e=.returned (partV k b n t x s)∧Below w.heap.size w w':=by
 unfold agg6
 have hb:Below w.heap.size w (w.alloc (.cells #[.int .i64 k,.bool b,.int .i64 n,.string t,.string x,s] 38)):=(Below.refl _ _).alloc (Nat.le_refl _) _
 replace hb:=Hd hb
 rcases kinds k with rfl|rfl|rfl|rfl|rfl|rfl|rfl|rfl|rfl|rfl|rfl|⟨h0,h1,h2,h3,h4,h5,h6,h7,h8,h9,h10⟩
 iterate 11
  ·go_enter Tryz.func95,Tryz.ntmps95
   go_wp2
   go_ret
   exact⟨rfl,hb.out⟩
 ·have hp:partV k b n t x s=.iface 158 (.int .i64 k):=by
   unfold partV
   rw[if_neg h0,if_neg h1,if_neg h2,if_neg h3,if_neg (by omega),if_neg h5,if_neg (by omega),if_neg h10]
  rw[hp]
  have q0:(k==0)=false:=by simpa using h0
  have q1:(k==1)=false:=by simpa using h1
  have q2:(k==2)=false:=by simpa using h2
  have q3:(k==3)=false:=by simpa using h3
  have q4:(k==4)=false:=by simpa using h4
  have q5:(k==5)=false:=by simpa using h5
  have q6:(k==6)=false:=by simpa using h6
  have q7:(k==7)=false:=by simpa using h7
  have q8:(k==8)=false:=by simpa using h8
  have q9:(k==9)=false:=by simpa using h9
  have q10:(k==10)=false:=by simpa using h10
  clear hp h0 h1 h2 h3 h4 h5 h6 h7 h8 h9 h10
  go_enter Tryz.func95,Tryz.ntmps95
  go_wp2
  go_ret
  exact⟨rfl,hb.out⟩
theorem ta_0_0(v:Value)(w:World):(Instr.typeAssert (.iface 148 v) 20 148 true).run Tryz.prog w=.ok (.tuple #[v,.bool true]) w:=by kernel_rfl
theorem ta_1_0(v:Value)(w:World):(Instr.typeAssert (.iface 149 v) 20 148 true).run Tryz.prog w=.ok (.tuple #[.agg #[],.bool false]) w:=by kernel_rfl
theorem ta_1_1(v:Value)(w:World):(Instr.typeAssert (.iface 149 v) 20 149 true).run Tryz.prog w=.ok (.tuple #[v,.bool true]) w:=by kernel_rfl
theorem ta_2_0(v:Value)(w:World):(Instr.typeAssert (.iface 150 v) 20 148 true).run Tryz.prog w=.ok (.tuple #[.agg #[],.bool false]) w:=by kernel_rfl
theorem ta_2_1(v:Value)(w:World):(Instr.typeAssert (.iface 150 v) 20 149 true).run Tryz.prog w=.ok (.tuple #[.bool false,.bool false]) w:=by kernel_rfl
theorem ta_2_2(v:Value)(w:World):(Instr.typeAssert (.iface 150 v) 20 150 true).run Tryz.prog w=.ok (.tuple #[v,.bool true]) w:=by kernel_rfl
theorem ta_3_0(v:Value)(w:World):(Instr.typeAssert (.iface 151 v) 20 148 true).run Tryz.prog w=.ok (.tuple #[.agg #[],.bool false]) w:=by kernel_rfl
theorem ta_3_1(v:Value)(w:World):(Instr.typeAssert (.iface 151 v) 20 149 true).run Tryz.prog w=.ok (.tuple #[.bool false,.bool false]) w:=by kernel_rfl
theorem ta_3_2(v:Value)(w:World):(Instr.typeAssert (.iface 151 v) 20 150 true).run Tryz.prog w=.ok (.tuple #[.int .i64 0,.bool false]) w:=by kernel_rfl
theorem ta_3_3(v:Value)(w:World):(Instr.typeAssert (.iface 151 v) 20 151 true).run Tryz.prog w=.ok (.tuple #[v,.bool true]) w:=by kernel_rfl
theorem ta_4_0(v:Value)(w:World):(Instr.typeAssert (.iface 152 v) 20 148 true).run Tryz.prog w=.ok (.tuple #[.agg #[],.bool false]) w:=by kernel_rfl
theorem ta_4_1(v:Value)(w:World):(Instr.typeAssert (.iface 152 v) 20 149 true).run Tryz.prog w=.ok (.tuple #[.bool false,.bool false]) w:=by kernel_rfl
theorem ta_4_2(v:Value)(w:World):(Instr.typeAssert (.iface 152 v) 20 150 true).run Tryz.prog w=.ok (.tuple #[.int .i64 0,.bool false]) w:=by kernel_rfl
theorem ta_4_3(v:Value)(w:World):(Instr.typeAssert (.iface 152 v) 20 151 true).run Tryz.prog w=.ok (.tuple #[.string ⟨#[]⟩,.bool false]) w:=by kernel_rfl
theorem ta_4_4(v:Value)(w:World):(Instr.typeAssert (.iface 152 v) 20 152 true).run Tryz.prog w=.ok (.tuple #[v,.bool true]) w:=by kernel_rfl
theorem ta_5_0(v:Value)(w:World):(Instr.typeAssert (.iface 153 v) 20 148 true).run Tryz.prog w=.ok (.tuple #[.agg #[],.bool false]) w:=by kernel_rfl
theorem ta_5_1(v:Value)(w:World):(Instr.typeAssert (.iface 153 v) 20 149 true).run Tryz.prog w=.ok (.tuple #[.bool false,.bool false]) w:=by kernel_rfl
theorem ta_5_2(v:Value)(w:World):(Instr.typeAssert (.iface 153 v) 20 150 true).run Tryz.prog w=.ok (.tuple #[.int .i64 0,.bool false]) w:=by kernel_rfl
theorem ta_5_3(v:Value)(w:World):(Instr.typeAssert (.iface 153 v) 20 151 true).run Tryz.prog w=.ok (.tuple #[.string ⟨#[]⟩,.bool false]) w:=by kernel_rfl
theorem ta_5_4(v:Value)(w:World):(Instr.typeAssert (.iface 153 v) 20 152 true).run Tryz.prog w=.ok (.tuple #[.string ⟨#[]⟩,.bool false]) w:=by kernel_rfl
theorem ta_5_5(v:Value)(w:World):(Instr.typeAssert (.iface 153 v) 20 153 true).run Tryz.prog w=.ok (.tuple #[v,.bool true]) w:=by kernel_rfl
theorem ta_6_0(v:Value)(w:World):(Instr.typeAssert (.iface 155 v) 20 148 true).run Tryz.prog w=.ok (.tuple #[.agg #[],.bool false]) w:=by kernel_rfl
theorem ta_6_1(v:Value)(w:World):(Instr.typeAssert (.iface 155 v) 20 149 true).run Tryz.prog w=.ok (.tuple #[.bool false,.bool false]) w:=by kernel_rfl
theorem ta_6_2(v:Value)(w:World):(Instr.typeAssert (.iface 155 v) 20 150 true).run Tryz.prog w=.ok (.tuple #[.int .i64 0,.bool false]) w:=by kernel_rfl
theorem ta_6_3(v:Value)(w:World):(Instr.typeAssert (.iface 155 v) 20 151 true).run Tryz.prog w=.ok (.tuple #[.string ⟨#[]⟩,.bool false]) w:=by kernel_rfl
theorem ta_6_4(v:Value)(w:World):(Instr.typeAssert (.iface 155 v) 20 152 true).run Tryz.prog w=.ok (.tuple #[.string ⟨#[]⟩,.bool false]) w:=by kernel_rfl
theorem ta_6_5(v:Value)(w:World):(Instr.typeAssert (.iface 155 v) 20 153 true).run Tryz.prog w=.ok (.tuple #[.slice none 0 0,.bool false]) w:=by kernel_rfl
theorem ta_6_6(v:Value)(w:World):(Instr.typeAssert (.iface 155 v) 20 155 true).run Tryz.prog w=.ok (.tuple #[v,.bool true]) w:=by kernel_rfl
theorem ta_7_0(v:Value)(w:World):(Instr.typeAssert (.iface 157 v) 20 148 true).run Tryz.prog w=.ok (.tuple #[.agg #[],.bool false]) w:=by kernel_rfl
theorem ta_7_1(v:Value)(w:World):(Instr.typeAssert (.iface 157 v) 20 149 true).run Tryz.prog w=.ok (.tuple #[.bool false,.bool false]) w:=by kernel_rfl
theorem ta_7_2(v:Value)(w:World):(Instr.typeAssert (.iface 157 v) 20 150 true).run Tryz.prog w=.ok (.tuple #[.int .i64 0,.bool false]) w:=by kernel_rfl
theorem ta_7_3(v:Value)(w:World):(Instr.typeAssert (.iface 157 v) 20 151 true).run Tryz.prog w=.ok (.tuple #[.string ⟨#[]⟩,.bool false]) w:=by kernel_rfl
theorem ta_7_4(v:Value)(w:World):(Instr.typeAssert (.iface 157 v) 20 152 true).run Tryz.prog w=.ok (.tuple #[.string ⟨#[]⟩,.bool false]) w:=by kernel_rfl
theorem ta_7_5(v:Value)(w:World):(Instr.typeAssert (.iface 157 v) 20 153 true).run Tryz.prog w=.ok (.tuple #[.slice none 0 0,.bool false]) w:=by kernel_rfl
theorem ta_7_6(v:Value)(w:World):(Instr.typeAssert (.iface 157 v) 20 155 true).run Tryz.prog w=.ok (.tuple #[.int .i64 0,.bool false]) w:=by kernel_rfl
theorem ta_7_7(v:Value)(w:World):(Instr.typeAssert (.iface 157 v) 20 157 true).run Tryz.prog w=.ok (.tuple #[v,.bool true]) w:=by kernel_rfl
theorem ta_8_0(v:Value)(w:World):(Instr.typeAssert (.iface 158 v) 20 148 true).run Tryz.prog w=.ok (.tuple #[.agg #[],.bool false]) w:=by kernel_rfl
theorem ta_8_1(v:Value)(w:World):(Instr.typeAssert (.iface 158 v) 20 149 true).run Tryz.prog w=.ok (.tuple #[.bool false,.bool false]) w:=by kernel_rfl
theorem ta_8_2(v:Value)(w:World):(Instr.typeAssert (.iface 158 v) 20 150 true).run Tryz.prog w=.ok (.tuple #[.int .i64 0,.bool false]) w:=by kernel_rfl
theorem ta_8_3(v:Value)(w:World):(Instr.typeAssert (.iface 158 v) 20 151 true).run Tryz.prog w=.ok (.tuple #[.string ⟨#[]⟩,.bool false]) w:=by kernel_rfl
theorem ta_8_4(v:Value)(w:World):(Instr.typeAssert (.iface 158 v) 20 152 true).run Tryz.prog w=.ok (.tuple #[.string ⟨#[]⟩,.bool false]) w:=by kernel_rfl
theorem ta_8_5(v:Value)(w:World):(Instr.typeAssert (.iface 158 v) 20 153 true).run Tryz.prog w=.ok (.tuple #[.slice none 0 0,.bool false]) w:=by kernel_rfl
theorem ta_8_6(v:Value)(w:World):(Instr.typeAssert (.iface 158 v) 20 155 true).run Tryz.prog w=.ok (.tuple #[.int .i64 0,.bool false]) w:=by kernel_rfl
theorem ta_8_7(v:Value)(w:World):(Instr.typeAssert (.iface 158 v) 20 157 true).run Tryz.prog w=.ok (.tuple #[.agg #[.string ⟨#[]⟩,.string ⟨#[]⟩],.bool false]) w:=by kernel_rfl
theorem ta_8_8(v:Value)(w:World):(Instr.typeAssert (.iface 158 v) 20 158 true).run Tryz.prog w=.ok (.tuple #[v,.bool true]) w:=by kernel_rfl
end Go.Proofs.YtcaeipdgbaligaaGreatDoor.val
