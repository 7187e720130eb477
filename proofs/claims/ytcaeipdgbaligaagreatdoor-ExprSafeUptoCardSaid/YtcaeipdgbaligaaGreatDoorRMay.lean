/- Texts RefRead, RMay, one behind the other. -/
import Derived.Test.YtcaeipdgbaligaaGreatDoorRefParse
import Derived.Test.YtcaeipdgbaligaaGreatDoorRefForm
import Derived.Test.YtcaeipdgbaligaaGreatDoorXOpen
set_option linter.unusedSimpArgs false
set_option linter.unusedVariables false
set_option maxRecDepth 100000
set_option maxHeartbeats 4000000
namespace Go.Proofs.YtcaeipdgbaligaaGreatDoor.dec
open Go.ChangeShapes Go.WideShapes Go.ChangeAt Go.RowKit kit
theorem rread_big(s:ByteArray)(w:World)(hs:s.size≤1048576):Calls Tryz.prog 170 #[.string s] w fun e w'=>e=.returned (rv (readP s.data.toList))∧Below w.heap.size w w':=by
 have hp:=parsed_big s w hs
 rw[readP_num]
 obtain⟨o,ho⟩:∃o,numP s.data.toList=o:=⟨_,rfl⟩
 rw[ho]at hp ⊢
 replace hp:=Hd hp
 clear ho
 go_enter Tryz.func170,Tryz.ntmps170
 go_wp2_with fail
 refine hp.out.mono ?_
 rintro e w1 ⟨hb1,hr⟩
 clear hp
 cases o with
 |none=>
  have he:e=.returned (.tuple #[.agg #[.bool false,.slice none 0 0,.int .i64 0],.bool false]):=hr
  subst he
  clear hr
  replace hb1:=Hd hb1
  go_wp2
  go_ret2
  exact⟨rfl,hb1.out.alloc hb1.out.size _⟩
 |some p=>
  obtain⟨n,N,sc⟩:=p
  obtain⟨v,D,he,hi,hd,hv,h1,hl,hsc,_⟩:=hr
  have he':e=.returned (.tuple #[.agg #[.bool n,v,.int .i64 sc],.bool true]):=he
  subst he'
  clear he
  obtain⟨vo,vc,rfl⟩:=hi.form
  replace hb1:=Hd hb1
  replace hi:=Hd hi
  replace hd:=Hd hd
  replace hv:=Hd hv
  go_wp2_with fail
  have hfm:=rform_any n (.slice vo D.length vc) D sc (w1.alloc (.cells #[.bool n,.slice vo D.length vc,.int .i64 sc] 239)) (hi.out.below ((Below.refl _ _).alloc (Nat.le_refl _) _)) hd.out h1 (by omega) (by omega)
  rw[hv.out]at hfm
  refine hfm.mono ?_
  unfold rv
  rintro e w2 ⟨rfl,hb2⟩
  have hb3:=(hb1.out.alloc hb1.out.size (.cells #[.bool n,.slice vo D.length vc,.int .i64 sc] 239)).trans (hb2.mono (by rw[World.size_alloc];have:=hb1.out.size;omega))
  replace hb3:=Hd hb3
  clear hb2 hfm
  go_wp2
  go_ret2
  exact⟨rfl,hb3.out⟩
theorem chk_or(l:List UInt8):chk l=((readP l).2==0&&(readP l).1==l):=by
 unfold chk
 by_cases h:((readP l).2==0&&(readP l).1==l)=true
 ·rw[h,Bool.and_true]
  rw[Bool.and_eq_true,beq_iff_eq,beq_iff_eq]at h
  obtain⟨z,hz,e⟩:=readP_zero l (readP l).1 (by rw[←h.1])
  rw[h.2]at e
  rw[e]
  exact decide_eq_true (canon_len z hz)
 ·rw[Bool.eq_false_iff.2 h,Bool.and_false]
theorem rcheck_big(s:ByteArray)(w:World)(hs:s.size≤1048576):Calls Tryz.prog 145 #[.string s] w fun e w'=>e=.returned (.bool (chk s.data.toList))∧Below w.heap.size w w':=by
 have hc:=chk_or s.data.toList
 have hr:=rread_big s w hs
 generalize readP s.data.toList=p at hc hr
 replace hc:=Hd hc
 unfold rv at hr
 replace hr:=Hd hr
 have hi:(s.size:Int)≤1048576:=by omega
 obtain⟨t,e⟩:=p
 by_cases he:e=0
 ·subst he
  go_enter Tryz.func145,Tryz.ntmps145
  go_wp2_with (go_at_call 170;refine hr.out.mono ?_;rintro e1 w1 ⟨rfl,hb⟩)
  go_ret
  exact⟨ret_bool (by rw[hc.out];simp[Go.ByteArray.toList_eq]),hb⟩
 ·have he':(e==0)=false:=by simpa using he
  go_enter Tryz.func145,Tryz.ntmps145
  go_wp2_with (go_at_call 170;refine hr.out.mono ?_;rintro e1 w1 ⟨rfl,hb⟩)
  go_ret
  exact⟨ret_bool (by rw[hc.out];simp[he']),hb⟩
end Go.Proofs.YtcaeipdgbaligaaGreatDoor.dec
set_option linter.unusedSimpArgs false
set_option linter.unusedVariables false
set_option maxRecDepth 100000
set_option maxHeartbeats 2000000
namespace Go.Proofs.YtcaeipdgbaligaaGreatDoor.val
open Go.ChangeShapes Go.WideShapes Go.ChangeAt Go.RowKit kit dec
theorem emp_b(t:ByteArray):emp t=(t.toList==[]):=by
 cases h:emp t
 ·exact(emp_no h).symm
 ·rw[(emp_iff t).1 h,Go.ByteArray.toList_eq];rfl
theorem n0_b(n:Int):decide (n=0)=!(n != 0):=by
 by_cases h:n=0
 ·subst h;rfl
 ·rw[decide_eq_false h,bne_iff_ne.2 h];rfl
theorem l0_b(l:List V):decide (l.length=0)=!decide (0<l.length):=by
 by_cases h:l.length=0
 ·rw[decide_eq_true h,decide_eq_false (by omega)];rfl
 ·rw[decide_eq_false h,decide_eq_true (by omega)];rfl
theorem riri_any (s : ByteArray) (w : World) (hs : s.size ≤ 9223372036854775807) : Calls Tryz.prog 146 #[.string s] w fun e w' => e = .returned (.bool (iriB s)) ∧ w' = w := by
 by_cases h1:s.size<1
 ·have hno:iriB s=false:=by unfold iriB;rw[decide_eq_false_iff_not];intro h;omega
  have h1i:(s.size:Int)<1:=by omega
  rw[hno]
  go_enter Tryz.func146,Tryz.ntmps146
  go_wp2
  go_ret
  exact⟨rfl,rfl⟩
 by_cases h2:1048576<s.size
 ·have hno:iriB s=false:=by unfold iriB;rw[decide_eq_false_iff_not];intro h;omega
  have h1i:¬(s.size:Int)<1:=by omega
  have h2i:(1048576:Int)<(s.size:Int):=by omega
  rw[hno]
  go_enter Tryz.func146,Tryz.ntmps146
  go_wp2
  go_ret
  exact⟨rfl,rfl⟩
 have h1i:¬(s.size:Int)<1:=by omega
 have h2i:¬(1048576:Int)<(s.size:Int):=by omega
 obtain⟨R,hR⟩:∃R,iriB s=R:=⟨_,rfl⟩
 rw[hR]
 replace hR:=Hd hR
 go_enter Tryz.func146,Tryz.ntmps146
 go_wp2
 go_loop [3] (fun v=>∃k:Nat,k≤s.size∧v=.int .i64 k∧Hid (∀i (h:i<s.size),i<k→iriC s[i].toNat=true)) (fun v=>s.size-(intOf v).toNat)
 case atStart=>exact⟨0,by omega,rfl,fun i _ h=>by omega⟩
 case round =>
  obtain⟨k,hk,rfl,hi⟩:=hrel
  by_cases hlt:k<s.size
  ·have hki : (k : Int) < (s.size : Int) := by omega
   obtain⟨n,hn⟩:∃n,(s[k]'hlt).toNat=n:=⟨_,rfl⟩
   have hn2:=Hd hn
   by_cases h1:n≤32
   ·have h1i:(n:Int)≤32:=by omega
    obtain rfl:R=false:=by
     rw[←hR.out];apply Bool.eq_false_iff.2;intro h
     have:=(iriC_iff _).1 (((iriB_iff s).1 h).2.2 k hlt)
     rw[hn2.out]at this;omega
    go_wp2
    go_ret
    exact⟨rfl,rfl⟩
   ·have h1i:¬(n:Int)≤32:=by omega
    by_cases h2:n=60
    ·subst h2
     obtain rfl:R=false:=by
      rw[←hR.out];apply Bool.eq_false_iff.2;intro h
      have:=(iriC_iff _).1 (((iriB_iff s).1 h).2.2 k hlt)
      rw[hn2.out]at this;omega
     go_wp2
     go_ret
     exact⟨rfl,rfl⟩
    ·have h2i:((n:Int)==60)=false:=beq_eq_false_iff_ne.2 (by omega)
     by_cases h3:n=62
     ·subst h3
      obtain rfl:R=false:=by
       rw[←hR.out];apply Bool.eq_false_iff.2;intro h
       have:=(iriC_iff _).1 (((iriB_iff s).1 h).2.2 k hlt)
       rw[hn2.out]at this;omega
      go_wp2
      go_ret
      exact⟨rfl,rfl⟩
     ·have h3i:((n:Int)==62)=false:=beq_eq_false_iff_ne.2 (by omega)
      have hnx:∀i (h:i<s.size),i<k+1→iriC s[i].toNat=true:=fun i h hi1=>by
       rcases Nat.lt_or_ge i k with e|e
       ·exact hi.out i h e
       ·obtain rfl:i=k:=by omega
        rw[hn2.out];exact(iriC_iff _).2 ⟨by omega,h2,h3⟩
      replace hnx:=Hd hnx
      clear hi
      go_wp2
      go_round
      case rel=>exact⟨k+1,by omega,by go_num,hnx⟩
      case measure=>simp[intOf];omega
  ·have hki:¬(k:Int)<(s.size:Int):=by omega
   obtain rfl:k=s.size:=by omega
   obtain rfl:R=true:=by rw[←hR.out];exact(iriB_iff s).2 ⟨by omega,by omega,fun i h=>hi.out i h h⟩
   go_wp2
   go_ret
   exact⟨rfl,rfl⟩
def nmC(n:Nat):Bool:=decide ((97≤n∧n≤122)∨(65≤n∧n≤90)∨(48≤n∧n≤57)∨n=95)
theorem nmC_iff(n:Nat):nmC n=true↔((97≤n∧n≤122)∨(65≤n∧n≤90)∨(48≤n∧n≤57)∨n=95):=decide_eq_true_iff
theorem nameB_nm(s:ByteArray)(h0:0<s.size):nameB s=true↔s.size≤64∧¬(48≤s[0].toNat∧s[0].toNat≤57)∧∀i (h:i<s.size),nmC s[i].toNat=true:=by
 rw[nameB_iff]
 constructor
 ·rintro⟨h1,h2,h3⟩
  refine⟨h2,fun e=>?_,fun i h=>?_⟩
  ·have:=(nameC_iff 0 _).1 (h3 0 h0)
   omega
  ·have:=(nameC_iff i _).1 (h3 i h)
   rw[nmC_iff]
   omega
 ·rintro⟨h1,h2,h3⟩
  refine⟨h0,h1,fun i h=>?_⟩
  have:=(nmC_iff _).1 (h3 i h)
  rw[nameC_iff]
  by_cases hi:i=0
  ·subst hi;omega
  ·omega
theorem parts(n:Nat):n<48∨(48≤n∧n≤57)∨(58≤n∧n≤64)∨(65≤n∧n≤90)∨(91≤n∧n≤94)∨n=95∨n=96∨(97≤n∧n≤122)∨123≤n:=by omega
theorem rname_any (s : ByteArray) (w : World) (hs : s.size ≤ 9223372036854775807) : Calls Tryz.prog 147 #[.string s] w fun e w' => e = .returned (.bool (nameB s)) ∧ w' = w := by
 by_cases h1:s.size<1
 ·have hno:nameB s=false:=by apply Bool.eq_false_iff.2;intro h;have:=(nameB_iff s).1 h;omega
  have h1i:(s.size:Int)<1:=by omega
  rw[hno]
  go_enter Tryz.func147,Tryz.ntmps147
  go_wp2
  go_ret
  exact⟨rfl,rfl⟩
 by_cases h2:64<s.size
 ·have hno:nameB s=false:=by apply Bool.eq_false_iff.2;intro h;have:=(nameB_iff s).1 h;omega
  have h1i:¬(s.size:Int)<1:=by omega
  have h2i:(64:Int)<(s.size:Int):=by omega
  rw[hno]
  go_enter Tryz.func147,Tryz.ntmps147
  go_wp2
  go_ret
  exact⟨rfl,rfl⟩
 have h1i:¬(s.size:Int)<1:=by omega
 have h2i:¬(64:Int)<(s.size:Int):=by omega
 have h0:0<s.size:=by omega
 have h0i:(0:Int)<(s.size:Int):=by omega
 have hnm:=nameB_nm s h0
 obtain⟨n0,hn0⟩:∃n,(s[0]'h0).toNat=n:=⟨_,rfl⟩
 rw[hn0]at hnm
 have hn02:=Hd hn0
 obtain⟨R,hR⟩:∃R,nameB s=R:=⟨_,rfl⟩
 rw[hR]at hnm ⊢
 replace hR:=Hd hR
 replace hnm:=Hd hnm
 by_cases h3:48≤n0
 ·have h3i : (48 : Int) ≤ (n0 : Int) := by omega
  by_cases h4:n0≤57
  ·have h4i:(n0:Int)≤57:=by omega
   obtain rfl:R=false:=by apply Bool.eq_false_iff.2;intro h;exact(hnm.out.1 h).2.1 ⟨h3,h4⟩
   go_enter Tryz.func147,Tryz.ntmps147
   go_wp2
   go_ret
   exact⟨rfl,rfl⟩
  ·have h4i : ¬ (n0 : Int) ≤ 57 := by omega
   have hdg:¬(48≤n0∧n0≤57):=fun e=>h4 e.2
   go_enter Tryz.func147,Tryz.ntmps147
   replace hdg:=Hd hdg
   go_wp2
   go_loop [3] (fun v=>∃k:Nat,k≤s.size∧v=.int .i64 k∧Hid (∀i (h:i<s.size),i<k→nmC s[i].toNat=true)) (fun v=>s.size-(intOf v).toNat)
   case atStart=>exact⟨0,by omega,rfl,fun i _ h=>by omega⟩
   case round =>
    obtain⟨k,hk,rfl,hi⟩:=hrel
    by_cases hlt:k<s.size
    ·have hki:(k:Int)<(s.size:Int):=by omega
     obtain⟨n,hn⟩:∃n,(s[k]'hlt).toNat=n:=⟨_,rfl⟩
     have hn2:=Hd hn
     obtain⟨q,hq⟩:∃q,(!nmC n)=q:=⟨_,rfl⟩
     replace hq:=Hd hq
     go_upto_region 7 with(fail)
     go_cut [58] (fun v wx=>v=.bool q∧wx=w)
     case first=>
      as_aux_lemma=>
       clear hR hi hnm hdg h3i hn02
       rcases parts n with hcl|hcl|hcl|hcl|hcl|hcl|hcl|hcl|hcl
       all_goals
        first
        |(have g1:(97:Int)≤(n:Int):=by omega)|(have g1:¬(97:Int)≤(n:Int):=by omega)
       all_goals
        first
        |(have g2:(n:Int)≤122:=by omega)|(have g2:¬(n:Int)≤122:=by omega)
       all_goals
        first
        |(have g3:(65:Int)≤(n:Int):=by omega)|(have g3:¬(65:Int)≤(n:Int):=by omega)
       all_goals
        first
        |(have g4:(n:Int)≤90:=by omega)|(have g4:¬(n:Int)≤90:=by omega)
       all_goals
        first
        |(have g6:(48:Int)≤(n:Int):=by omega)|(have g6:¬(48:Int)≤(n:Int):=by omega)
       all_goals
        first
        |(have g7:(n:Int)≤57:=by omega)|(have g7:¬(n:Int)≤57:=by omega)
       all_goals
        first
        |(have g5:((n:Int)==95)=true:=by rw[show n=95 by omega];rfl)|(have g5:((n:Int)==95)=false:=beq_eq_false_iff_ne.2 (by omega))
       all_goals
        replace hcl:=Hd hcl
        go_wp2
       all_goals
        go_meet
       all_goals
        exact⟨congrArg _ (by have:=hcl.out;rw[←hq.out];unfold nmC;first|(rw[decide_eq_true (by omega)];rfl)|(rw[decide_eq_false (by omega)];rfl)),rfl⟩
     obtain⟨rfl,hwx⟩:=hcut
     rw[hwx];clear hwx
     cases q
     ·have hnx:∀i (h:i<s.size),i<k+1→nmC s[i].toNat=true:=fun i h1 h2=>by
       rcases Nat.lt_or_ge i k with e|e
       ·exact hi.out i h1 e
       ·obtain rfl:i=k:=by omega
        rw[hn2.out]
        have:=hq.out
        simpa using this
      replace hnx:=Hd hnx
      clear hi
      go_wp2
      go_round
      case rel=>exact⟨k+1,by omega,by go_num,hnx⟩
      case measure=>simp[intOf];omega
     ·obtain rfl:R=false:=by
       apply Bool.eq_false_iff.2
       intro h
       have h5:=(hnm.out.1 h).2.2 k hlt
       rw[hn2.out]at h5
       have:=hq.out
       rw[h5]at this
       cases this
      go_wp2
      go_ret
      exact⟨rfl,rfl⟩
    ·have hki:¬(k:Int)<(s.size:Int):=by omega
     obtain rfl:k=s.size:=by omega
     obtain rfl:R=true:=hnm.out.2 ⟨by omega,hdg.out,fun i h=>hi.out i h h⟩
     go_wp2
     go_ret
     exact⟨rfl,rfl⟩
 ·have h3i : ¬ (48 : Int) ≤ (n0 : Int) := by omega
  have hdg:¬(48≤n0∧n0≤57):=fun e=>h3 e.1
  go_enter Tryz.func147,Tryz.ntmps147
  replace hdg:=Hd hdg
  go_wp2
  go_loop [3] (fun v=>∃k:Nat,k≤s.size∧v=.int .i64 k∧Hid (∀i (h:i<s.size),i<k→nmC s[i].toNat=true)) (fun v=>s.size-(intOf v).toNat)
  case atStart=>exact⟨0,by omega,rfl,fun i _ h=>by omega⟩
  case round =>
   obtain⟨k,hk,rfl,hi⟩:=hrel
   by_cases hlt:k<s.size
   ·have hki:(k:Int)<(s.size:Int):=by omega
    obtain⟨n,hn⟩:∃n,(s[k]'hlt).toNat=n:=⟨_,rfl⟩
    have hn2:=Hd hn
    obtain⟨q,hq⟩:∃q,(!nmC n)=q:=⟨_,rfl⟩
    replace hq:=Hd hq
    go_upto_region 7 with(fail)
    go_cut [58] (fun v wx=>v=.bool q∧wx=w)
    case first=>
     as_aux_lemma=>
      clear hR hi hnm hdg h3i hn02
      rcases parts n with hcl|hcl|hcl|hcl|hcl|hcl|hcl|hcl|hcl
      all_goals
       first
       |(have g1:(97:Int)≤(n:Int):=by omega)|(have g1:¬(97:Int)≤(n:Int):=by omega)
      all_goals
       first
       |(have g2:(n:Int)≤122:=by omega)|(have g2:¬(n:Int)≤122:=by omega)
      all_goals
       first
       |(have g3:(65:Int)≤(n:Int):=by omega)|(have g3:¬(65:Int)≤(n:Int):=by omega)
      all_goals
       first
       |(have g4:(n:Int)≤90:=by omega)|(have g4:¬(n:Int)≤90:=by omega)
      all_goals
       first
       |(have g6:(48:Int)≤(n:Int):=by omega)|(have g6:¬(48:Int)≤(n:Int):=by omega)
      all_goals
       first
       |(have g7:(n:Int)≤57:=by omega)|(have g7:¬(n:Int)≤57:=by omega)
      all_goals
       first
       |(have g5:((n:Int)==95)=true:=by rw[show n=95 by omega];rfl)|(have g5:((n:Int)==95)=false:=beq_eq_false_iff_ne.2 (by omega))
      all_goals
       replace hcl:=Hd hcl
       go_wp2
      all_goals
       go_meet
      all_goals
       exact⟨congrArg _ (by have:=hcl.out;rw[←hq.out];unfold nmC;first|(rw[decide_eq_true (by omega)];rfl)|(rw[decide_eq_false (by omega)];rfl)),rfl⟩
    obtain⟨rfl,hwx⟩:=hcut
    rw[hwx];clear hwx
    cases q
    ·have hnx:∀i (h:i<s.size),i<k+1→nmC s[i].toNat=true:=fun i h1 h2=>by
      rcases Nat.lt_or_ge i k with e|e
      ·exact hi.out i h1 e
      ·obtain rfl:i=k:=by omega
       rw[hn2.out]
       have:=hq.out
       simpa using this
     replace hnx:=Hd hnx
     clear hi
     go_wp2
     go_round
     case rel=>exact⟨k+1,by omega,by go_num,hnx⟩
     case measure=>simp[intOf];omega
    ·obtain rfl:R=false:=by
      apply Bool.eq_false_iff.2
      intro h
      have h5:=(hnm.out.1 h).2.2 k hlt
      rw[hn2.out]at h5
      have:=hq.out
      rw[h5]at this
      cases this
     go_wp2
     go_ret
     exact⟨rfl,rfl⟩
   ·have hki:¬(k:Int)<(s.size:Int):=by omega
    obtain rfl:k=s.size:=by omega
    obtain rfl:R=true:=hnm.out.2 ⟨by omega,hdg.out,fun i h=>hi.out i h h⟩
    go_wp2
    go_ret
    exact⟨rfl,rfl⟩
end Go.Proofs.YtcaeipdgbaligaaGreatDoor.val
