/- Texts StabAll, StabClone, StabSort, BagP, RsTable, RsNumber, one behind the other. -/
import Derived.Test.YtidplkfhodpdhaaGreatDoorStabSym
import Derived.Laws.EntriesVeiled
set_option linter.unusedSimpArgs false
set_option linter.unusedVariables false
set_option maxRecDepth 100000
set_option maxHeartbeats 8000000
namespace Go.Proofs.YtidplkfhodpdhaaGreatDoor.stab
open Go.ChangeShapes Go.WideShapes Go.ChangeAt Go.RowKit kit dec val tab
theorem sym_all(w0 w1:World)(N g n cap:Nat)(lang:Int)(p q:Value)(hC:CmpC w0 w1 N g lang p q)(hn:n≤1048576)(hcap:n≤cap):∀K,SymX w0 w1 N g n cap lang p q K
 |0=>fun a m b h1 h2 _ h3=>by omega
 | K + 1 => fun a m b h1 h2 h3 h4 w f hS hok hA hB => by
  by_cases e1:m=a+1
  ·exact symA_any w0 w1 N g n cap lang p q hC hn hcap a m b e1 h2 h3 w f hS hok hB
  ·by_cases e2:b=m+1
   ·exact symB_any w0 w1 N g n cap lang p q hC hn hcap a m b h1 e1 e2 h3 w f hS hok hA
   ·exact symC_any w0 w1 N g n cap lang p q hC hn hcap K (sym_all w0 w1 N g n cap lang p q hC hn hcap K) a m b (by omega) (by omega) h3 h4 w f hS hok hA hB
theorem runs_zero{α:Type}{o:α→α→Int}{f F:Nat→α}{s:Nat}(h:Runs o f F 0 s):Done o f F 0 0:=
 ⟨by rw[seg_nil (Nat.le_refl 0)];exact List.Pairwise.nil,by rw[seg_nil (Nat.le_refl 0),seg_nil (Nat.le_refl 0)];exact Cls.refl _,fun k _=>h.2 k (Nat.zero_le k)⟩
theorem runs_done{α:Type}{o:α→α→Int}{f F:Nat→α}{n s:Nat}(h:Runs o f F n s)(hs:n≤s):Done o f F 0 n:=by
 by_cases h0:0<n
 ·obtain⟨a,b⟩:=runs_all h hs h0
  exact⟨a,b,fun k hk=>h.2 k (by omega)⟩
 ·obtain rfl:n=0:=by omega
  exact runs_zero h
theorem stable_any (w0 w1 : World) (N g n cap : Nat) (lang : Int) (p q : Value) (hC : CmpC w0 w1 N g lang p q) (hn : n ≤ 1048576) (hcap : n ≤ cap) (w : World) (f : Nat → Px) (hS : SW w1 w g n f) (hok : okF w0 N n f) :
 Calls Tryz.prog 138 #[.slice (some ⟨g,0,none⟩) n cap,.int .i64 n,.func (.func 82) #[] #[p,q]] w (SortOut w1 g n (decide (lang=1)) f 0 n):=by
 have hni:(n:Int)≤1048576:=by omega
 have hP0:Hid (Prog (oP (decide (lang=1))) f f f n 20 0):=Hd (prog_start f f n (by omega))
 replace hC:=Hd hC
 replace hS:=Hd hS
 replace hok:=Hd hok
 go_enter Tryz.func138,Tryz.ntmps138
 go_wp2
 go_loopw [7,8] (fun u v wr=>∃(k b:Nat) (F:Nat→Px),Hid (k+20=b)∧k≤n∧u=.int .i64 (k:Int)∧v=.int .i64 (b:Int)∧Hid (SW w1 wr g n F)∧Hid (okF w0 N n F)∧Hid (Prog (oP (decide (lang=1))) f f F n 20 k)) (fun u _ _=>n-(intOf u).toNat)
 case atStart=>exact⟨0,20,f,Hd rfl,Nat.zero_le _,rfl,rfl,hS,hok,hP0⟩
 case round =>
  clear hS hok hP0
  obtain⟨k,b,F,hkb,hkn,rfl,rfl,hSi,hoki,hP⟩:=hrel
  obtain⟨w2,rfl⟩:∃z:World,z=wr:=⟨_,rfl⟩
  by_cases hlt:b≤n
  ·have hbi:(b:Int)≤(n:Int):=by omega
   obtain⟨b2,hb2⟩:∃k,b+20=k:=⟨_,rfl⟩
   have hbw:IntKind.i64.wrap ((b:Int)+20)=(b2:Int):=by rw[IntWalk.i64_in _ (by omega)];omega
   have hkb2:=hkb.out
   have hc:=Hd (insSort_any w0 w1 N g n cap lang p q hC.out hn hcap k b (by omega) hlt w2 F hSi.out hoki.out)
   replace hb2:=Hd hb2
   have hkltb:k<b:=by omega
   clear hkb2
   go_wp2_with fail
   refine hc.out.mono ?_
   rintro e w3 ⟨rfl,F2,hS2,hd2⟩
   have hok2:=Hd (done_ok hoki.out hd2 hlt)
   have hP2:Hid (Prog (oP (decide (lang=1))) f f F2 n 20 b):=Hd (by
    have h:=hkb.out
    subst h
    exact prog_next (by omega) hP.out hlt hd2 (Cls.refl _))
   replace hS2:=Hd hS2
   clear hc hd2 hP hSi hoki
   go_wp2
   go_roundw
   case rel=>exact⟨b,b2,F2,hb2,hlt,rfl,rfl,hS2,hok2,hP2⟩
   case measure=>simp[intOf];omega
  ·have hbi : ¬ (b : Int) ≤ (n : Int) := by omega
   have hc:=Hd (insSort_any w0 w1 N g n cap lang p q hC.out hn hcap k n hkn (Nat.le_refl n) w2 F hSi.out hoki.out)
   go_wp2_with fail
   refine hc.out.mono ?_
   rintro e w3 ⟨rfl,F2,hS2,hd2⟩
   have hok2:=Hd (done_ok hoki.out hd2 (Nat.le_refl n))
   have hR0:Hid (Runs (oP (decide (lang=1))) f F2 n 20):=Hd (prog_end (by omega) hP.out (by have:=hkb.out;omega) hd2 (Cls.refl _) (fun _ _=>rfl))
   replace hS2:=Hd hS2
   clear hc hd2 hP hSi hoki hkb hbi hlt hkn
   go_wp2
   go_loopw [6] (fun v wr=>∃(s:Nat) (G:Nat→Px),0<s∧s≤4000000∧v=.int .i64 (s:Int)∧Hid (SW w1 wr g n G)∧Hid (okF w0 N n G)∧Hid (Runs (oP (decide (lang=1))) f G n s)) (fun v _=>2 * n+40-(intOf v).toNat)
   case atStart=>exact⟨20,F2,by omega,by omega,rfl,hS2,hok2,hR0⟩
   case round =>
    clear hS2 hok2 hR0
    obtain⟨s,G,s1,s2b,rfl,hSi,hoki,hR⟩:=hrel
    obtain⟨w4,rfl⟩:∃z:World,z=wr:=⟨_,rfl⟩
    by_cases hlt:s<n
    ·have hsi:(s:Int)<(n:Int):=by omega
     obtain⟨s2,hs2⟩:∃k,2 * s=k:=⟨_,rfl⟩
     have hw2:IntKind.i64.wrap (2 * (s:Int))=(s2:Int):=by rw[IntWalk.i64_in _ (by omega)];omega
     have hw3:IntKind.i64.wrap ((s:Int) * 2)=(s2:Int):=by rw[IntWalk.i64_in _ (by omega)];omega
     have hsp:s<s2:=by omega
     have hsm:s2≤2097152:=by omega
     have hP0:Hid (Prog (oP (decide (lang=1))) f G G n s2 0):=Hd (prog_start f G n (by omega))
     replace hs2:=Hd hs2
     go_wp2
     go_loopw [7,8] (fun u v wr=>∃(k b:Nat) (F:Nat→Px),Hid (k+s2=b)∧k≤n∧u=.int .i64 (k:Int)∧v=.int .i64 (b:Int)∧Hid (SW w1 wr g n F)∧Hid (okF w0 N n F)∧Hid (Prog (oP (decide (lang=1))) f G F n s2 k)) (fun u _ _=>n-(intOf u).toNat)
     case atStart=>exact⟨0,s2,G,Hd (Nat.zero_add _),Nat.zero_le _,rfl,rfl,hSi,hoki,hP0⟩
     case round=>
      clear hSi hoki hP0
      obtain⟨k,b,F,hkb,hkn,rfl,rfl,hSi,hoki,hP⟩:=hrel
      obtain⟨w5,rfl⟩:∃z:World,z=wr:=⟨_,rfl⟩
      obtain⟨m,hm⟩:∃m,k+s=m:=⟨_,rfl⟩
      have hmw:IntKind.i64.wrap ((k:Int)+(s:Int))=(m:Int):=by rw[IntWalk.i64_in _ (by omega)];omega
      have hkm:k<m:=by omega
      have hmul:∃t,k=t * (2 * s):=by have h:=hP.out.mul;rwa [←hs2.out]at h
      by_cases hlt2:b≤n
      ·have hbi:(b:Int)≤(n:Int):=by omega
       obtain⟨b2,hb2⟩:∃k,b+s2=k:=⟨_,rfl⟩
       have hbw:IntKind.i64.wrap ((b:Int)+(s2:Int))=(b2:Int):=by rw[IntWalk.i64_in _ (by omega)];omega
       have hmb:m<b:=by have:=hkb.out;omega
       have hrp:=runs_pair hR.out hmul (e:=b) (by omega) (by have:=hkb.out;have:=hs2.out;rw[Nat.min_eq_left (by omega)];omega)
       rw[hm]at hrp
       obtain⟨r1,r2,r3⟩:=hrp
       have e1:seg F k m=seg G k m:=seg_congr fun j j1 _=>hP.out.rest j j1
       have e2:seg F m b=seg G m b:=seg_congr fun j j1 _=>hP.out.rest j (by omega)
       have hc:=Hd (sym_all w0 w1 N g n cap lang p q hC.out hn hcap (b-k) k m b hkm hmb hlt2 (Nat.le_refl _) w5 F hSi.out hoki.out (by rw[e1];exact r1) (by rw[e2];exact r2))
       have hkltb:k<b:=by omega
       replace hb2:=Hd hb2
       replace hm:=Hd hm
       replace r3:=Hd r3
       clear hmul r1 r2 e1 e2
       go_wp2_with fail
       refine hc.out.mono ?_
       rintro e w6 ⟨rfl,F2,hS2,hd2⟩
       have hok2:=Hd (done_ok hoki.out hd2 hlt2)
       have hP2:Hid (Prog (oP (decide (lang=1))) f G F2 n s2 b):=Hd (by
        have h:=hkb.out
        subst h
        exact prog_next (by omega) hP.out hlt2 hd2 r3.out)
       replace hS2:=Hd hS2
       clear hc hd2 hP hSi hoki r3
       go_wp2
       go_roundw
       case rel=>exact⟨b,b2,F2,hb2,hlt2,rfl,rfl,hS2,hok2,hP2⟩
       case measure=>simp[intOf];omega
      ·have hbi:¬(b:Int)≤(n:Int):=by omega
       have hkb2:=hkb.out
       by_cases hmn:m<n
       ·have hmi:(m:Int)<(n:Int):=by omega
        have hrp:=runs_pair hR.out hmul (e:=n) (by omega) (by have:=hs2.out;rw[Nat.min_eq_right (by omega)])
        rw[hm]at hrp
        obtain⟨r1,r2,r3⟩:=hrp
        have e1:seg F k m=seg G k m:=seg_congr fun j j1 _=>hP.out.rest j j1
        have e2:seg F m n=seg G m n:=seg_congr fun j j1 _=>hP.out.rest j (by omega)
        have hc:=Hd (sym_all w0 w1 N g n cap lang p q hC.out hn hcap (n-k) k m n hkm hmn (Nat.le_refl n) (Nat.le_refl _) w5 F hSi.out hoki.out (by rw[e1];exact r1) (by rw[e2];exact r2))
        replace hm:=Hd hm
        replace r3:=Hd r3
        clear hmul r1 r2 e1 e2 hkb2
        go_wp2_with fail
        refine hc.out.mono ?_
        rintro e w6 ⟨rfl,F2,hS2,hd2⟩
        have hok2:=Hd (done_ok hoki.out hd2 (Nat.le_refl n))
        have hR2:Hid (Runs (oP (decide (lang=1))) f F2 n s2):=Hd (prog_end (by omega) hP.out (by have:=hkb.out;omega) hd2 r3.out hR.out.2)
        replace hS2:=Hd hS2
        clear hc hd2 hP hSi hoki r3 hR
        go_wp2
        go_roundw
        case rel=>exact⟨s2,_,by omega,by omega,rfl,hS2,hok2,hR2⟩
        case measure=>simp[intOf];omega
       ·have hmi:¬(m:Int)<(n:Int):=by omega
        have hr1:=runs_one hR.out hmul (by omega)
        have e1:seg F k n=seg G k n:=seg_congr fun j j1 _=>hP.out.rest j j1
        have hR2:Hid (Runs (oP (decide (lang=1))) f F n s2):=Hd (prog_end (by omega) hP.out (by omega) (done_self (by rw[e1];exact hr1.1)) hr1.2 hR.out.2)
        replace hm:=Hd hm
        clear hmul e1 hr1 hkb2 hP hR
        go_wp2
        go_roundw
        case rel=>exact⟨s2,_,by omega,by omega,rfl,hSi,hoki,hR2⟩
        case measure=>simp[intOf];omega
    ·have hsi:¬(s:Int)<(n:Int):=by omega
     have hfin:Hid (SortOut w1 g n (decide (lang=1)) f 0 n (.returned (.tuple #[])) w4):=Hd ⟨rfl,G,hSi.out,runs_done hR.out (by omega)⟩
     clear hSi hoki hR
     go_wp2
     go_end0
     exact hfin.out
theorem sortStable_any(w0 w1:World)(N g n cap:Nat)(lang:Int)(p q:Value)(hC:CmpC w0 w1 N g lang p q)(hn:n≤1048576)(hcap:n≤cap)(w:World)(f:Nat→Px)(hS:SW w1 w g n f)(hok:okF w0 N n f):
 Calls Tryz.prog 116 #[.slice (some ⟨g,0,none⟩) n cap,.func (.func 82) #[] #[p,q]] w (SortOut w1 g n (decide (lang=1)) f 0 n):=by
 have hc:=Hd (stable_any w0 w1 N g n cap lang p q hC hn hcap w f hS hok)
 clear hC hS hok
 go_enter Tryz.func116,Tryz.ntmps116
 go_wp2_with fail
 refine hc.out.mono ?_
 rintro e w2 hO
 obtain⟨rfl,hO2⟩:=hO
 have hfin:Hid (SortOut w1 g n (decide (lang=1)) f 0 n (.returned (.tuple #[])) w2):=Hd ⟨rfl,hO2⟩
 clear hO2 hc
 go_wp2
 go_end0
 exact hfin.out
theorem insSort_none(w:World)(a:Option Addr)(c:Nat)(fv:Value):Calls Tryz.prog 154 #[.slice a 0 c,.int .i64 0,.int .i64 0,fv] w fun e w'=>e=.returned (.tuple #[])∧w'=w:=by
 go_enter Tryz.func154,Tryz.ntmps154
 go_wp2
 go_loopw [8] (fun v wr=>v=.int .i64 1∧wr=w) (fun _ _=>0)
 case atStart=>exact⟨rfl,rfl⟩
 case round=>
  obtain⟨rfl,rfl⟩:=hrel
  go_wp2
  go_end0
  exact⟨rfl,rfl⟩
theorem sortStable_none(w:World)(a:Option Addr)(c:Nat)(fv:Value):Calls Tryz.prog 116 #[.slice a 0 c,fv] w fun e w'=>e=.returned (.tuple #[])∧w'=w:=by
 have h1:Calls Tryz.prog 138 #[.slice a 0 c,.int .i64 0,fv] w fun e w'=>e=.returned (.tuple #[])∧w'=w:=by
  have hc:=Hd (insSort_none w a c fv)
  go_enter Tryz.func138,Tryz.ntmps138
  go_wp2
  go_loopw [7,8] (fun u v wr=>u=.int .i64 0∧v=.int .i64 20∧wr=w) (fun _ _ _=>0)
  case atStart=>exact⟨rfl,rfl,rfl⟩
  case round=>
   obtain⟨rfl,rfl,rfl⟩:=hrel
   go_wp2_with fail
   refine hc.out.mono ?_
   rintro e w2 ⟨rfl,rfl⟩
   go_wp2
   go_loopw [6] (fun v wr=>v=.int .i64 20∧wr=w2) (fun _ _=>0)
   case atStart=>exact⟨rfl,rfl⟩
   case round=>
    obtain⟨rfl,rfl⟩:=hrel
    go_wp2
    go_end0
    exact⟨rfl,rfl⟩
 replace h1:=Hd h1
 go_enter Tryz.func116,Tryz.ntmps116
 go_wp2_with fail
 refine h1.out.mono ?_
 rintro e w2 ⟨rfl,rfl⟩
 go_wp2
 go_end0
 exact⟨rfl,rfl⟩
end Go.Proofs.YtidplkfhodpdhaaGreatDoor.stab
namespace Go.Proofs.YtidplkfhodpdhaaGreatDoor.tab
open Go.ChangeShapes Go.WideShapes Go.ChangeAt Go.RowKit kit dec val
open hyp (RowA TextsA CellsStay stay_of_below textsV textsV_length own_row OW)
theorem cloneR_any(w:World)(u:Value)(vs:List Value)(hl:vs.length≤1048576)(hone:∀v∈vs,v.oneCell'=true)(hR:RowA w w.heap.size u vs):
 Calls Tryz.prog 115 #[u] w fun e w'=>∃v,e=.returned v∧Below w.heap.size w w'∧w'.ownsRow w.heap.size 37 1 v vs.length vs:=by
 obtain⟨i0,hi,hz0,hz1,hz2⟩:=info_parts infoRow
 have q22:∀(w:World) (a:Option Addr) (n c n' c':Nat),(binOp .eql 23 (.slice a n c) (.slice none n' c')).run Tryz.prog w=.ok (.bool a.isNone) w:=fun w a n c n' c'=>Lib.run_eql_slice_nil w _ _ a n c n' c' Tryz.underlying23
 obtain⟨ao,cap,rfl⟩:∃ao cap,u=.slice ao vs.length cap:=by
  rcases hR with⟨a,c,rfl,rfl⟩|⟨b,off,c,rfl,-⟩
  ·exact⟨a,c,rfl⟩
  ·exact⟨_,c,rfl⟩
 by_cases h0:vs=[]
 ·subst h0
  cases ao with
  |none=>
   clear hR
   go_enter Tryz.func115,Tryz.ntmps115
   go_wp2
   go_ret
   exact⟨_,rfl,Below.refl _ _,World.ownsRow_nil _ _ _ _⟩
  |some a=>
   clear hR
   go_enter Tryz.func115,Tryz.ntmps115
   go_wp2_with (at_builtin;refine wpList_append_own _ rfl _ _ 23 rfl w.heap.size 37 i0 (.slice none 0 0) 1 24 Tryz.underlying23 hi hz0 hz1 hz2 rfl (by decide) _ _ _ rfl (World.ownsRow_made w #[] 0 (Nat.le_refl _) (Nat.zero_le _) rfl) a 0 cap [] rfl rfl ?e2 ?e3 ?e4 ?e5 ?e6 ?_)
   case e2=>intro j u hj;simp at hj
   case e3=>intro u hu;cases hu
   case e4=>simp[maxLen]
   case e5=>omega
   case e6=>simp
   intro v' w1 hown hgrow hnil
   go_wp2
   go_ret
   have hbl:Below w.heap.size w w1:=((Below.refl _ w).alloc (Nat.le_refl _) _).grown hgrow (by simp) (by intro k hk;simp[Value.ownBlock]at hk;omega)
   exact⟨v',rfl,hbl,by simpa using hown⟩
 ·have hpos:=List.length_pos_iff.2 h0
  rcases hR with⟨a,c,hv,hnil⟩|⟨b,off,c,hv,-,hcap,hb,hc⟩
  ·exact absurd hnil h0
  obtain⟨rfl,rfl⟩:ao=some ⟨b,off,none⟩∧cap=c:=by
   injection hv with h1 h2 h3
   exact⟨h1,h3⟩
  have A:Hid (∀j (h:j<vs.length),w.cell? ⟨b,off+j,none⟩=some vs[j]):=hc
  clear hc hv
  go_enter Tryz.func115,Tryz.ntmps115
  go_wp2_with (at_builtin;refine wpList_append_own _ rfl _ _ 23 rfl w.heap.size 37 i0 (.slice none 0 0) 1 24 Tryz.underlying23 hi hz0 hz1 hz2 rfl (by decide) _ _ _ rfl (World.ownsRow_made w #[] 0 (Nat.le_refl _) (Nat.zero_le _) rfl) ⟨b,off,none⟩ vs.length cap vs rfl ?e1 ?e2 ?e3 ?e4 ?e5 ?e6 ?_)
  case e1=>rw[Nat.mul_one]
  case e2=>
   intro j u hj
   have hj2:=(List.getElem?_eq_some_iff.1 hj).1
   rw[Addr.add_lit]
   refine Lib.cell?_alloc_some _ ?_
   rw[A.out j hj2]
   rw[List.getElem?_eq_getElem hj2]at hj
   exact hj
  case e3=>exact hone
  case e4=>unfold maxLen;omega
  case e5=>omega
  case e6=>simp
  intro v' w1 hown hgrow hnil
  go_wp2
  go_ret
  have hbl:Below w.heap.size w w1:=((Below.refl _ w).alloc (Nat.le_refl _) _).grown hgrow (by simp) (by intro k hk;simp[Value.ownBlock]at hk;omega)
  exact⟨v',rfl,hbl,by simpa using hown⟩
end Go.Proofs.YtidplkfhodpdhaaGreatDoor.tab
namespace Go.Proofs.YtidplkfhodpdhaaGreatDoor.stab
open Go.ChangeShapes Go.WideShapes Go.ChangeAt Go.RowKit kit dec val tab
open hyp (RowA TextsA CellsStay stay_of_below textsV textsV_length own_row OW)
theorem order_any(N:Nat)(hN:N≤9223372036854775807)(lang:Int)(w:World)(hE:EnvD w)(s s2:Value)(l l2:List V)(ha:LA w N s l)(ha2:LA w N s2 l2):
 Calls Tryz.prog 79 #[.int .i64 lang,s,s2] w fun e w'=>e=.returned (.int .i64 (ordL (decide (lang=1)) l l2))∧Below w.heap.size w w':=by
 have hc:=Hd (rowsCompare_any N hN lang w hE s s2 l l2 ha ha2)
 obtain⟨a,c,rfl⟩:=ha.form6
 obtain⟨a2,c2,rfl⟩:=ha2.form6
 clear ha ha2 hE
 go_enter Tryz.func79,Tryz.ntmps79
 go_wp2_with fail
 refine hc.out.mono ?_
 rintro e w2 ⟨rfl,hb2⟩
 go_wp2
 go_ret
 exact⟨rfl,hb2⟩
theorem canon1_any(N:Nat)(hN:N≤9223372036854775807)(lang:Int)(w:World)(hE:EnvD w)(P Q:Nat)(hP:w.cell? ⟨P,0,none⟩=some (.func (.func 79) #[] #[]))(hQ:w.cell? ⟨Q,0,none⟩=some (.int .i64 lang))(s s2:Value)(l l2:List V)(ha:LA w N s l)(ha2:LA w N s2 l2):
 Calls Tryz.prog 82 #[s,s2,.pointer (some ⟨P,0,none⟩),.pointer (some ⟨Q,0,none⟩)] w fun e w'=>e=.returned (.int .i64 (ordL (decide (lang=1)) l l2))∧Below w.heap.size w w':=by
 have hc:=Hd (order_any N hN lang w hE s s2 l l2 ha ha2)
 obtain⟨a,c,rfl⟩:=ha.form6
 obtain⟨a2,c2,rfl⟩:=ha2.form6
 clear ha ha2 hE
 go_enter Tryz.func82,Tryz.ntmps82
 go_wp2_with fail
 refine hc.out.mono ?_
 rintro e w2 ⟨rfl,hb2⟩
 go_wp2
 go_ret
 exact⟨rfl,hb2⟩
theorem la_one{w:World}{N:Nat}{v:Value}{l:List V}(h:LA w N v l):v.oneCell'=true:=by
 obtain⟨a,c,rfl⟩:=h.form6
 rfl
theorem sorted_read{w w1 w2:World}{N g n cap:Nat}{s:Bool}{f:Nat→Px}{e:Ending}{rs:List (List V)}(hok:okF w N n f)(hrs:(seg f 0 n).map (·.2)=rs)(hcap:n≤cap)(hb:Below w.heap.size w w2)(h:SortOut w1 g n s f 0 n e w2)(hn:0<n):
 RowsA w2 N (.slice (some ⟨g,0,none⟩) n cap) (sortR s rs):=by
 obtain⟨-,F,hS,hd⟩:=h
 have hok2:=done_ok hok hd (Nat.le_refl n)
 have hlen:(seg F 0 n).length=n:=by rw[seg_len];omega
 have hm:(seg F 0 n).map (·.2)=sortR s rs:=by rw[sorted_rows hd.1 hd.2.1,hrs]
 obtain⟨cs,hq,hsz,hc⟩:=hS.cells
 refine⟨(seg F 0 n).map (·.1),by rw[←hm,List.length_map,List.length_map],.inr ⟨g,0,cap,by rw[List.length_map,hlen],by rw[List.length_map,hlen];exact hn,by rw[List.length_map,hlen];exact hcap,hq.lt,fun j hj=>?_⟩,fun j hj hj'=>?_⟩
 ·rw[List.length_map,hlen]at hj
  rw[Nat.zero_add,hq.cell j (hc j hj),List.getElem_map,seg_get,Nat.zero_add]
 ·rw[List.length_map,hlen]at hj
  have h2:(sortR s rs)[j]=(F j).2:=by
   have h3:(sortR s rs)[j]? = ((seg F 0 n).map (·.2))[j]?:=by rw[hm]
   rw[List.getElem?_eq_getElem hj',List.getElem?_eq_getElem (by rw[List.length_map,hlen];exact hj),List.getElem_map,seg_get,Nat.zero_add]at h3
   exact Option.some.inj h3
  rw[h2,List.getElem_map,seg_get,Nat.zero_add]
  exact(hok2 j hj).stay hb
theorem sorted_any(N:Nat)(hN:N≤9223372036854775807)(lang:Int)(w:World)(hE:EnvD w)(P Q:Nat)(hP:w.cell? ⟨P,0,none⟩=some (.func (.func 79) #[] #[]))(hQ:w.cell? ⟨Q,0,none⟩=some (.int .i64 lang))(u:Value)(rs:List (List V))(hr:rs.length≤1048576)(hR:RowsA w N u rs):
 Calls Tryz.prog 81 #[u,.func (.func 82) #[] #[.pointer (some ⟨P,0,none⟩),.pointer (some ⟨Q,0,none⟩)]] w fun e w'=>∃v,e=.returned v∧Below w.heap.size w w'∧RowsA w' N v (sortR (decide (lang=1)) rs):=by
 obtain⟨vs,h1,h2,h3⟩:=hR
 have hcl:=Hd (cloneR_any w u vs (by omega) (fun v hv=>by
  obtain⟨j,hj,rfl⟩:=List.getElem_of_mem hv
  exact la_one (h3 j hj (by omega))) h2)
 obtain⟨ao,cap,rfl⟩:∃ao cap,u=.slice ao vs.length cap:=by
  rcases h2 with⟨a,c,rfl,rfl⟩|⟨b,off,c,rfl,-⟩
  ·exact⟨a,c,rfl⟩
  ·exact⟨_,c,rfl⟩
 clear h2
 replace h3:=Hd h3
 replace hP:=Hd hP
 replace hQ:=Hd hQ
 replace hE:=Hd hE
 replace h1:=Hd h1
 go_enter Tryz.func81,Tryz.ntmps81
 go_wp2_with fail
 refine hcl.out.mono ?_
 rintro e w1 ⟨v,rfl,hb1,own⟩
 rcases own.2 with⟨rfl,hn⟩|⟨g,c1,cur,rfl,hg,hcell,hnc,hcap,hsz,htake⟩
 ·have hc:=Hd (sortStable_none w1 none 0 (.func (.func 82) #[] #[.pointer (some ⟨P,0,none⟩),.pointer (some ⟨Q,0,none⟩)]))
  have hrs:rs=[]:=List.eq_nil_of_length_eq_zero (by have:=h1.out;omega)
  subst hrs
  clear own hcl
  go_wp2_with fail
  refine hc.out.mono ?_
  rintro e w2 ⟨rfl,rfl⟩
  go_wp2
  go_ret
  exact⟨_,rfl,hb1,[],rfl,.inl ⟨_,_,rfl,rfl⟩,fun j hj=>by simp at hj⟩
 ·obtain⟨n,hn⟩:∃n,vs.length=n:=⟨_,rfl⟩
  rw[hn]at hnc htake ⊢
  by_cases h0:n=0
  ·have hrs:rs=[]:=List.eq_nil_of_length_eq_zero (by have:=h1.out;omega)
   have hc:=Hd (sortStable_none w1 (some ⟨g,0,none⟩) c1 (.func (.func 82) #[] #[.pointer (some ⟨P,0,none⟩),.pointer (some ⟨Q,0,none⟩)]))
   subst hrs h0
   clear own hcl hcell hg
   go_wp2_with fail
   refine hc.out.mono ?_
   rintro e w2 ⟨rfl,rfl⟩
   go_wp2
   go_ret
   exact⟨_,rfl,hb1,[],rfl,.inl ⟨_,_,rfl,rfl⟩,fun j hj=>by simp at hj⟩
  ·obtain⟨f,hf⟩:∃f:Nat→Px,∀j (hj:j<n),f j=(vs[j]'(by omega),rs[j]'(by have:=h1.out;omega)):=⟨fun j=>if hj:j<n then(vs[j]'(by omega),rs[j]'(by have:=h1.out;omega)) else(.nilIface,[]),fun j hj=>dif_pos hj⟩
   have hok:okF w N n f:=fun j hj=>by rw[hf j hj];exact h3.out j (by omega) (by have:=h1.out;omega)
   have hsegl:(seg f 0 n).map (·.2)=rs:=by
    apply List.ext_getElem
    ·rw[List.length_map,seg_len];have:=h1.out;omega
    ·intro j k1 k2
     have hj:j<n:=by rw[List.length_map,seg_len]at k1;omega
     rw[List.getElem_map,seg_get,Nat.zero_add,hf j hj]
   have hcs:∀j,j<n→cur[j]? = some (f j).1:=fun j hj=>by
    have e2:vs=cur.toList.take n:=by rw[←htake];simp
    have e3:(cur.toList.take n)[j]? = some (vs[j]'(by omega)):=by rw[←e2];exact List.getElem?_eq_getElem _
    rw[hf j hj,←Array.getElem?_toList]
    rw[List.getElem?_take_of_lt hj]at e3
    exact e3
   have hq:Blk w1 g cur 37:=hcell
   have hgs:w.heap.size≤g:=hg
   have hSW:SW w1 w1 g n f:=⟨Out.refl _ _,cur,hq,by have:=hsz;omega,hcs⟩
   have hbo:∀W,Out (fun b=>b=g) w1 W→Below w.heap.size w W:=fun W hW=>hb1.trans (hW.below w.heap.size hb1.size (fun x hx=>by rw[hx];exact hgs))
   have hCC:CmpC w w1 N g lang (.pointer (some ⟨P,0,none⟩)) (.pointer (some ⟨Q,0,none⟩)):=fun W hW s s2 l l2 ha ha2=>
    canon1_any N hN lang W (hE.out.below (hbo W hW)) P Q (sB ((hbo W hW)) hP.out) (sB ((hbo W hW)) hQ.out) s s2 l l2 (ha.stay (hbo W hW)) (ha2.stay (hbo W hW))
   have hc:=Hd (sortStable_any w w1 N g n c1 lang _ _ hCC (by have:=h1.out;omega) (by omega) w1 f hSW hok)
   replace hok:=Hd hok
   replace hsegl:=Hd hsegl
   replace hbo:=Hd hbo
   have hnc1:n≤c1:=by omega
   clear own hcl hcell hg hSW hCC hcs hf hq htake hb1
   go_wp2_with fail
   refine hc.out.mono ?_
   rintro e w2 hO
   have hb2:=hbo.out w2 (by obtain⟨-,F,hS,-⟩:=hO;exact hS.out)
   have hfin:=Hd (sorted_read hok.out hsegl.out hnc1 hb2 hO (by omega))
   obtain⟨rfl,-⟩:=hO
   replace hb2:=Hd hb2
   clear hc
   go_wp2
   go_ret
   exact⟨_,rfl,hb2.out,hfin.out⟩
end Go.Proofs.YtidplkfhodpdhaaGreatDoor.stab
namespace Go.Proofs.YtidplkfhodpdhaaGreatDoor.tab
open Go.RowKit dec val stab
def canonT(s:Bool)(a:Tab):Tab:=⟨a.vars,sortR s a.rows⟩
theorem canon_may(s:Bool){a:Tab}(h:mayT a=true):mayT (canonT s a)=true:=half_may h fun r hr=>(sortR_perm s a.rows).mem_iff.1 hr
open Go.ChangeShapes Go.WideShapes Go.ChangeAt kit
open hyp (RowA TextsA CellsStay stay_of_below textsV textsV_length own_row OW)
theorem tabO_stored{w w0 w2:World}{N rb:Nat}{names rv:Value}{t:Tab}(hb:Below w.heap.size w w0)(h:TabO w0 w2 N (.agg #[names,rv]) t)(hr:Blk w2 rb #[.slice none 0 0,.slice none 0 0] 25)(hlow:w.heap.size≤w0.heap.size)(hrl:rb<w0.heap.size)(hrw:w.heap.size≤rb):
 Blk ((w2.setCell ⟨rb,0,none⟩ names).setCell ⟨rb,1,none⟩ rv) rb #[names,rv] 25∧TabO w ((w2.setCell ⟨rb,0,none⟩ names).setCell ⟨rb,1,none⟩ rv) N (.agg #[names,rv]) t:=by
 obtain⟨vv,rv2,e,hb2,own,hsz,hM⟩:=h
 injection e with e
 have e2:=Array.mk.inj e
 simp only[List.cons.injEq,and_true]at e2
 obtain⟨rfl,rfl⟩:=e2
 have hr2:=hr.set 0 names
 have hr3:=hr2.set 1 rv
 refine⟨hr3,names,rv,rfl,?_,?_,hsz,?_⟩
 ·exact((hb.trans (hb2.mono hb.size)).setCell (p:=⟨rb,0,none⟩) hrw names).setCell (p:=⟨rb,1,none⟩) hrw rv
 ·exact own_set (own_set (own_low4 own hlow) hr (by decide) 0 names) hr2 (by decide) 1 rv
 ·have hsz2:((w2.setCell ⟨rb,0,none⟩ names).setCell ⟨rb,1,none⟩ rv).heap.size=w2.heap.size:=by simp[World.setCell]
  refine(hM.stay fun b hS _=>?_).mono fun b hS=>?_
  ·have:=hS.1
   rw[Below.heap_setCell _ _ _ b (by simp;omega),Below.heap_setCell _ _ _ b (by simp;omega)]
  ·exact⟨by have:=hS.1;omega,by rw[hsz2];exact hS.2⟩
theorem take_snoc{α:Type}(l:List α){k:Nat}(h:k<l.length):l.take (k+1)=l.take k++[l[k]]:=List.take_succ_eq_append_getElem h
theorem table_any(N:Nat)(hN:N≤1048576)(w:World)(vv rv:Value)(X:List ByteArray)(R:List (List V))(hV:TextsA w w.heap.size vv X)(hR:RowsA w N rv R)(a1:X.length≤1048576)(a2:R.length≤1048575):
 Calls Tryz.prog 80 #[vv,rv] w fun e w'=>∃v,e=.returned v∧TabO w w' N v ⟨X,R⟩:=by
 obtain⟨av,cv,rfl,-⟩:=hV.form
 obtain⟨ar,cr,rfl,-,hrc⟩:=hR.form
 have hal:Below w.heap.size w (w.alloc (.cells #[.slice none 0 0,.slice none 0 0] 25)):=(Below.refl _ _).alloc (Nat.le_refl _) _
 have hq1:=Blk.new w #[.slice none 0 0,.slice none 0 0] 25
 have cC:=Hd (cloneT_any _ _ X a1 (TextsA.below hV hal))
 have hsX:=Hd hV.size
 replace hrc:=Hd hrc
 replace hal:=Hd hal
 replace hq1:=Hd hq1
 clear hV hR
 go_enter Tryz.func80,Tryz.ntmps80
 go_wp2_with fail
 obtain⟨w1,hw1⟩:∃w1,w.alloc (.cells #[.slice none 0 0,.slice none 0 0] 25)=w1:=⟨_,rfl⟩
 rw[hw1]at hal hq1 cC ⊢
 refine cC.out.mono ?_
 rintro e wb ⟨vx,rfl,hW⟩
 have hbW:=hW.below
 have ownX:Hid (wb.ownsRow w1.heap.size 9 1 vx X.length (textsV X)):=Hd (by have:=hW.own;rw[textsV_length]at this;exact this)
 obtain⟨ax,cx,hvx⟩:=own_form4x ownX.out
 subst hvx
 replace hq1:=Hd (hq1.out.keep (Keep.ofBelow hbW) (by simp))
 have hB:=Hd (hal.out.trans (hbW.mono hal.out.size))
 have hs1:=hal.out.size
 have hq1lt:=hq1.out.lt
 have hJ0:=Hd (JnW.start wb N (.slice ax X.length cx))
 rw[show([]:List (List V))=R.take 0 by rfl]at hJ0
 replace hw1:=Hd hw1
 clear cC hW hbW hal
 go_wp2
 go_loopw [13] (fun i wr=>∃(k:Nat) (rv:Value),k≤R.length∧i=.int .i64 (k:Int)∧Hid (JnW wb wr N (.slice ax X.length cx) rv (R.take k))) (fun i _=>R.length-(intOf i).toNat)
 case atStart=>exact⟨0,_,Nat.zero_le _,rfl,hJ0⟩
 case round=>
  clear hJ0
  obtain⟨i,rv,hi,rfl,hJ⟩:=hrel
  obtain⟨wv,rfl⟩:∃w6:World,w6=wr:=⟨_,rfl⟩
  by_cases hlt:i<R.length
  ·have hki:(i:Int)<(R.length:Int):=by omega
   have hi1:=Hd (show i+1≤R.length from hlt)
   have hwb6:=hB.out.trans (hJ.out.below.mono hB.out.size)
   obtain⟨g1,o1,a3,c3,rfl,hg1,hcell,hla⟩:=hrc.out i hlt
   replace hcell:=sB hwb6 hcell
   replace hla:=Hd (hla.stay hwb6)
   have hnext:=Hd (take_snoc R hlt)
   have hlen:(R.take i).length+1≤1048576:=by rw[List.length_take];omega
   obtain⟨q0,hq⟩:∃q0,wv.heap.size=q0:=⟨_,rfl⟩
   have hM0:Hid (MR wv N (fun b=>wb.heap.size<b∧b<q0) rv (R.take i)):=Hd (by rw[←hq];exact hJ.out.rows)
   have hq0:q0≤wv.heap.size:=by omega
   generalize R.take i=L1 at *
   generalize R[i]=x at *
   replace hlen:=Hd hlen
   replace hq:=Hd hq
   clear hwb6 hg1
   go_wp2
   replace hlen:=hlen.out
   go_upto_region 5 with fail
   have hal:Below wv.heap.size wv wv.drew:=below_drewN (Below.refl _ _) 1
   have hJV:=hJ.out.stay hal
   have hMV:=hM0.out.stay (fun b hS hlt=>hal.block b hlt)
   have hlaV:=hla.out.stay hal
   have htlt:=hJ.out.tb.lt
   have hwV:wv.drew.heap.size=wv.heap.size:=rfl
   have hS0:Blk wv.drew wb.heap.size #[.slice ax X.length cx,rv] 25∧∀b,q0≤b→b<wv.heap.size→wv.drew.heap[b]? = wv.heap[b]?:=⟨hJV.tb,fun _ _ _=>rfl⟩
   refine wp_region_late [7] (S:=fun V=>Blk V wb.heap.size #[.slice ax X.length cx,rv] 25∧∀b,q0≤b→b<wv.heap.size→V.heap[b]? = wv.heap[b]?) (by kernel_rfl) hS0 (fun hS=>?_)
   have hV:=hS0
   clear hS0 hal hJ hla hM0
   generalize wv.drew=V0 at *
   have hcall:=Hd (row_any N (by omega) V0 _ _ hlaV)
   refine tlH 0 ?_ rfl (fun w' hS=>?_) hS ?_
   rotate_left
   ·
    skip
    go_simp
    try with_reducible rfl
   refine tlH 1 ?_ rfl (fun w' hS=>?_) hS ?_
   rotate_left
   ·
    have z0:=hS.1.cell 0 rfl;have z1:=hS.1.cell 1 rfl
    go_simp
    try with_reducible rfl
   refine tlH 2 ?_ rfl (fun w' hS=>?_) hS ?_
   rotate_left
   ·
    skip
    go_simp
    try with_reducible rfl
   refine wpAnyL_ready (i:=3) (by kernel_rfl) rfl (fun K hK=>?_)
   clear hS
   go_simp
   refine(hcall.out).mono ?_
   rintro e w5 ⟨a9,c9,rfl,hb5,hl5⟩
   go_wp2_with fail
   refine hKo hK (⟨(hb5.block _ hV.1.lt).trans hV.1,fun b h1 h2=>(hb5.block b (by omega)).trans (hV.2 b h1 h2)⟩) (fun hS=>?_)
   clear hK K
   have hJ5:=hJV.stay hb5
   have hM5:=hMV.stay (fun b hS hlt=>hb5.block b hlt)
   have hs5:=hb5.size
   have hV5:∀b,q0≤b→b<wv.heap.size→w5.heap[b]? = wv.heap[b]?:=fun b h1 h2=>(hb5.block b (by omega)).trans (hV.2 b h1 h2)
   clear hcall hV hJV hMV hlaV
   refine wpAnyL_ready (i:=4) (by kernel_rfl) rfl (fun K hK=>?_)
   clear hS
   go_simp
   go_wp2_with fail
   have hal:=((Below.refl w5.heap.size w5).alloc (Nat.le_refl _) (.cells #[.slice a9 x.length c9] 37))
   have hJ6:=hJ5.stay hal
   have hM6:=hM5.stay (fun b hS hlt=>hal.block b hlt)
   have hl6:=hl5.stay (fun b hS hlt=>hal.block b hlt)
   have hs6:=World.size_alloc w5 (.cells #[.slice a9 x.length c9] 37)
   have hn6:(w5.alloc (.cells #[.slice a9 x.length c9] 37)).cell? ⟨w5.heap.size,0,none⟩=some (.slice a9 x.length c9):=(Blk.new w5 #[.slice a9 x.length c9] 37).cell 0 rfl
   have hV6:∀b,q0≤b→b<wv.heap.size→(w5.alloc (.cells #[.slice a9 x.length c9] 37)).heap[b]? = wv.heap[b]?:=fun b h1 h2=>(hal.block b (by omega)).trans (hV5 b h1 h2)
   refine hKo hK ⟨hJ6.tb,hV6⟩ (fun hS=>?_)
   clear hK K hJ5 hM5 hl5 hV5 hb5
   refine wpAnyL_ready (i:=5) (by kernel_rfl) rfl (fun K hK=>?_)
   clear hS
   refine wp_pushR (.tmp 18) (.tmp 21) rfl N (fun b=>wb.heap.size<b∧b<q0) (Fr V0.heap.size w5) _ _ rfl hM6 ?d2 w5.heap.size _ (.slice a9 x.length c9) rfl hn6 hl6 ?d3 hlen ?d5
   case d2=>intro b hb;rw[hs6];have:=hb.2;omega
   case d3=>intro b hb;exact⟨by rw[hs6];have:=hb.2;omega,fun h=>by have:=h.2;have:=hb.1;omega⟩
   intro v' w' hM' hg hvS
   have hgs:=hg.size
   rw[hs6]at hgs
   have hJ8:=Hd (hJ6.push hM' hg (fun g e=>by have:=hvS g e;exact⟨this.1,by rw[hs6];omega⟩) (fun b hb=>⟨hb.1,by have:=hb.2;omega⟩) (fun b hb=>⟨by have:=hb.1;omega,by have:=hb.2;omega⟩))
   have hV7:Blk w' wb.heap.size _ _:=(hg.block _ hJ6.tb.lt (fun e=>by have:=(hvS _ e.symm).1;omega)).trans hJ6.tb
   have hV8:∀b,q0≤b→b<wv.heap.size→w'.heap[b]? = wv.heap[b]?:=fun b h1 h2=>(hg.block b (by rw[hs6];omega) (fun e=>by have:=(hvS _ e.symm).2;omega)).trans (hV6 b h1 h2)
   obtain⟨ao7,cap7,hv7⟩:=hM'.form
   rw[List.length_append,List.length_singleton]at hv7
   subst hv7
   refine hKo hK ⟨hV7,hV8⟩ (fun hS=>?_)
   clear hK K hJ6 hM6 hl6 hn6 hM' hg hvS hV6 hV8
   refine tlH 6 ?_ rfl (fun w' hS=>?_) hS ?_
   rotate_left
   ·
    skip
    go_simp
    try with_reducible rfl
   refine wpAnyL_late (i:=7) (by kernel_rfl) rfl (by kernel_rfl) (fun K hK=>?_)
   clear hS
   have f1:=hV7.free 1
   have z0:=hV7.cell 0 rfl
   have z1:=hV7.cell 1 rfl
   go_simp
   go_wp2_with fail
   refine hK.out _ _ ?_
   clear hK K f1 hV7 z0 z1
   try simp only[List.getElem_toArray,List.getElem_cons_succ,List.getElem_cons_zero,Act.put,List.setIfInBounds_toArray,List.set_cons_zero,List.set_cons_succ]
   refine wpAnyL_done (by kernel_rfl) ?_ _
   rw[←hnext.out]at hJ8
   go_wp2
   go_roundw
   case rel=>exact⟨i+1,_,hi1.out,by go_num,hJ8⟩
   case measure=>have:=hi1.out;simp[intOf];omega
  ·have hki:¬(i:Int)<(R.length:Int):=by omega
   obtain rfl:i=R.length:=by omega
   rw[List.take_length]at hJ
   have hd:=Hd (hJ.out.done (vars:=X) hB.out ownX.out (by omega) hsX.out hq1.out (Nat.le_refl _))
   have z0:=hJ.out.tb.cell 0 rfl
   have z1:=hJ.out.tb.cell 1 rfl
   have hrb5:Blk wv w.heap.size _ _:=(hJ.out.below.block _ hq1lt).trans hq1.out
   have f1:=Blk.free hrb5
   have g0:=hrb5.cell 0 rfl
   have g1:=hrb5.cell 1 rfl
   obtain⟨ao9,cap9,hrv⟩:=hJ.out.slice
   subst hrv
   go_wp2
   refine bodyPost_ret (v:=.agg #[.slice ax X.length cx,.slice ao9 R.length cap9]) (results_cell_row rfl _ _ w.heap.size 25 _ (0,0) _ rfl hd.out.1.eq Tryz.underlying25 rfl infoTab) rfl ⟨_,rfl,hd.out.2⟩
def canonZ(s:Bool)(A:Tab):Tab:=if mayT A=true then canonT s A else⟨[],[]⟩
theorem canon_any(N:Nat)(hN:N≤1048576)(lang:Int)(w:World)(hE:EnvD w)(va:Value)(A:Tab)(hA:TabA w N va A)(a1:A.vars.length≤1048576)(a2:A.rows.length≤1048575):
 Calls Tryz.prog 34 #[.int .i64 lang,va] w fun e w'=>∃v,e=.returned v∧TabO w w' N v (canonZ (decide (lang=1)) A):=by
 obtain⟨vv,rv,rfl,hV,hR⟩:=hA.ex
 obtain⟨av,cv,rfl,hvc⟩:=hV.form
 obtain⟨ar,cr,rfl,-,hrc⟩:=hR.form
 have hal:Below w.heap.size w (((w.alloc (.cells #[.int .i64 lang] 3)).alloc (.cells #[.slice av A.vars.length cv,.slice ar A.rows.length cr] 25)).alloc (.cells #[.slice none 0 0,.slice none 0 0] 25)):=
  (((Below.refl _ _).alloc (Nat.le_refl _) _).alloc (by rw[World.size_alloc];omega) _).alloc (by rw[World.size_alloc,World.size_alloc];omega) _
 have hqL:=((Blk.new w #[.int .i64 lang] 3).alloc (.cells #[.slice av A.vars.length cv,.slice ar A.rows.length cr] 25)).alloc (.cells #[.slice none 0 0,.slice none 0 0] 25)
 have hq0:=(Blk.new (w.alloc (.cells #[.int .i64 lang] 3)) #[.slice av A.vars.length cv,.slice ar A.rows.length cr] 25).alloc (.cells #[.slice none 0 0,.slice none 0 0] 25)
 have hq1:=Blk.new ((w.alloc (.cells #[.int .i64 lang] 3)).alloc (.cells #[.slice av A.vars.length cv,.slice ar A.rows.length cr] 25)) #[.slice none 0 0,.slice none 0 0] 25
 rw[World.size_alloc]at hq0 hq1
 rw[World.size_alloc]at hq1
 obtain⟨w1,hw1⟩:∃w1,((w.alloc (.cells #[.int .i64 lang] 3)).alloc (.cells #[.slice av A.vars.length cv,.slice ar A.rows.length cr] 25)).alloc (.cells #[.slice none 0 0,.slice none 0 0] 25)=w1:=⟨_,rfl⟩
 have hs1:w1.heap.size=w.heap.size+3:=by rw[←hw1];simp
 rw[hw1]at hal hqL hq0 hq1
 have cA:=Hd (checkT_any N (by omega) w1 (hE.env.below hal) _ A (hA.stay hal) a1 (by omega))
 have hV1:=Hd (TextsA.below hV hal)
 have hR1:=Hd (hR.stay hal)
 have hE1:=Hd (hE.below hal)
 have x0:=hq0.cell 0 rfl
 have x1:=hq0.cell 1 rfl
 have xL:=hqL.cell 0 rfl
 replace hal:=Hd hal
 replace hq1:=Hd hq1
 replace hw1:=Hd hw1
 replace hs1:=Hd hs1
 clear hA hV hR hE hvc hrc hqL hq0
 go_enter Tryz.func34,Tryz.ntmps34
 go_wp2_with fail
 rw[hw1.out]
 refine cA.out.mono ?_
 rintro e w2 ⟨rfl,hb2⟩
 replace x0:=sB hb2 x0
 replace x1:=sB hb2 x1
 replace xL:=sB hb2 xL
 replace hq1:=Hd (hq1.out.keep (Keep.ofBelow hb2) (by simp))
 have hB2:=Hd (hal.out.trans (hb2.mono hal.out.size))
 replace hV1:=Hd (TextsA.below hV1.out hb2)
 replace hR1:=Hd (hR1.out.stay hb2)
 replace hE1:=Hd (hE1.out.below hb2)
 replace hs1:=Hd (show w.heap.size+3≤w2.heap.size by have:=hs1.out;have:=hb2.size;omega)
 clear cA hb2 hal
 cases hmA:mayT A with
 |false=>
  have hz:canonZ (decide (lang=1)) A=⟨[],[]⟩:=by unfold canonZ;rw[hmA];simp
  replace hz:=Hd hz
  clear hV1 hR1 hE1 xL
  have hfin:=Hd ((hq1.out.set 0 (.slice none 0 0)).set 1 (.slice none 0 0))
  have hbf:=Hd ((hB2.out.setCell (p:=⟨w.heap.size+1+1,0,none⟩) (by simp;omega) (.slice none 0 0)).setCell (p:=⟨w.heap.size+1+1,1,none⟩) (by simp;omega) (.slice none 0 0))
  have f1:=Blk.free hq1.out
  have g0:=hq1.out.cell 0 rfl
  have g1:=hq1.out.cell 1 rfl
  go_wp2
  refine bodyPost_ret (v:=.agg #[.slice none 0 0,.slice none 0 0]) (results_cell_row rfl _ _ (w.heap.size+1+1) 25 _ (0,0) _ rfl hfin.out.eq Tryz.underlying25 rfl infoTab) rfl ⟨_,rfl,?_⟩
  rw[hz.out]
  exact tabO_zero hbf.out
 | true =>
  have hz:canonZ (decide (lang=1)) A=⟨A.vars,sortR (decide (lang=1)) A.rows⟩:=by unfold canonZ;rw[hmA];rfl
  replace hz:=Hd hz
  replace hmA:=Hd hmA
  obtain⟨w3,hw3⟩:∃w3,w2.alloc (.cells #[.func (.func 79) #[] #[]] 92)=w3:=⟨_,rfl⟩
  have hal3:Below w2.heap.size w2 w3:=by rw[←hw3];exact(Below.refl _ _).alloc (Nat.le_refl _) _
  have xP:w3.cell? ⟨w2.heap.size,0,none⟩=some (.func (.func 79) #[] #[]):=by rw[←hw3];exact(Blk.new w2 #[.func (.func 79) #[] #[]] 92).cell 0 rfl
  replace x0:=sB hal3 x0
  replace x1:=sB hal3 x1
  replace xL:=sB hal3 xL
  replace hq1:=Hd (hq1.out.keep (Keep.ofBelow hal3) (by simp))
  have hB3:=Hd (hB2.out.trans (hal3.mono hB2.out.size))
  replace hV1:=Hd (TextsA.below hV1.out hal3)
  replace hR1:=Hd (hR1.out.stay hal3)
  replace hE1:=Hd (hE1.out.below hal3)
  replace hs1:=Hd (show w.heap.size+3≤w3.heap.size by have:=hs1.out;have:=hal3.size;omega)
  obtain⟨p2,hp2⟩:∃p2,w2.heap.size=p2:=⟨_,rfl⟩
  rw[hp2]at xP
  have cS:=Hd (fun V (h:Below w3.heap.size w3 V)=>stab.sorted_any N (by omega) lang V (hE1.out.below h) p2 w.heap.size (sB h xP) (sB h xL) _ A.rows (by omega) (hR1.out.stay h))
  replace hw3:=Hd hw3
  replace hp2:=Hd hp2
  clear hE1 hR1 hB2 hal3
  go_upto_region 4 with fail
  try rw[hw3.out]
  try rw[hp2.out]
  have h0:Below w3.heap.size w3 w3.drew:=below_drewN (Below.refl _ _) 1
  refine wp_region_held_drew (S:=fun V=>V.cell? ⟨w.heap.size+1,0,none⟩=some (.slice av A.vars.length cv)∧V.cell? ⟨w.heap.size+1,1,none⟩=some (.slice ar A.rows.length cr)) (by kernel_rfl) ⟨x0,x1⟩ (fun hS=>?_)
  have hx0:=Hd x0
  have hx1:=Hd x1
  have hq3:=Hd (hq1.out.keep (Keep.ofBelow h0) (by simp))
  clear x0 x1
  generalize w3.drew=V0 at *
  refine tkS [0,1,2,3,4] ?_
  iterate 5
   refine tkC ?_ rfl (fun w' hS=>?_) hS ?_
   rotate_left
   ·
    have y0:=hS.1;have y1:=hS.2
    go_simp
    try with_reducible rfl
  refine rdH 5 rfl (fun K hK=>?_)
  clear hS
  go_simp
  refine(cS.out V0 h0).mono ?_
  rintro e w4 ⟨v,rfl,hb4,hrs⟩
  go_wp2_with fail
  refine hKo hK (⟨sB ((h0.trans (hb4.mono h0.size))) hx0.out,sB ((h0.trans (hb4.mono h0.size))) hx1.out⟩) (fun hS=>?_)
  clear hK K
  have h4:=h0.trans (hb4.mono h0.size)
  have cT:=Hd (table_any N hN w4 _ v A.vars (sortR (decide (lang=1)) A.rows) (TextsA.below hV1.out h4) hrs a1 (by rw[sortR_len];exact a2))
  obtain⟨as4,cs4,hvs⟩:∃a c,v=.slice a (sortR (decide (lang=1)) A.rows).length c:=by
   obtain⟨a,c,e,-⟩:=hrs.form
   exact⟨a,c,e⟩
  subst hvs
  clear hb4 h0 cS hrs
  refine rdH 6 rfl (fun K hK=>?_)
  clear hS
  go_simp
  refine cT.out.mono ?_
  rintro e w5 ⟨v,rfl,hO⟩
  have hb5:=hO.below
  have h5:=h4.trans (hb5.mono h4.size)
  have hO5:=hO
  obtain⟨vv5,rv5,rfl,-,hown,-,hMR⟩:=hO5
  obtain⟨an5,cn5,hvn⟩:=own_form4x hown
  obtain⟨ar5,cr5,hvr⟩:=hMR.form
  subst hvn
  subst hvr
  go_wp2_with fail
  refine hKo hK ⟨sB h5 hx0.out,sB h5 hx1.out⟩ (fun hS=>?_)
  clear hK K
  have hrb:Blk w5 (w.heap.size+1+1) _ _:=(h5.block _ hq1.out.lt).trans hq1.out
  have hd:=Hd (tabO_stored (w:=w) (rb:=w.heap.size+1+1) (hB3.out.trans (h4.mono hB3.out.size)) hO hrb (by have:=hs1.out;have:=h4.size;omega) (by have:=hs1.out;have:=h4.size;omega) (by omega))
  have f1:=Blk.free hrb
  have g0:=hrb.cell 0 rfl
  have g1:=hrb.cell 1 rfl
  have s0:((w5.setCell ⟨w.heap.size+1+1,0,none⟩ (.slice an5 A.vars.length cn5)).setCell ⟨w.heap.size+1+1,1,none⟩ (.slice ar5 (sortR (decide (lang=1)) A.rows).length cr5)).cell? ⟨w.heap.size+1,0,none⟩=some (.slice av A.vars.length cv)∧((w5.setCell ⟨w.heap.size+1+1,0,none⟩ (.slice an5 A.vars.length cn5)).setCell ⟨w.heap.size+1+1,1,none⟩ (.slice ar5 (sortR (decide (lang=1)) A.rows).length cr5)).cell? ⟨w.heap.size+1,1,none⟩=some (.slice ar A.rows.length cr):=by
   have hh:((w5.setCell ⟨w.heap.size+1+1,0,none⟩ (.slice an5 A.vars.length cn5)).setCell ⟨w.heap.size+1+1,1,none⟩ (.slice ar5 (sortR (decide (lang=1)) A.rows).length cr5)).heap[w.heap.size+1]? = w5.heap[w.heap.size+1]?:=by
    rw[Below.heap_setCell _ _ _ _ (by simp),Below.heap_setCell _ _ _ _ (by simp)]
   exact⟨(cell_heapx hh).trans (sB h5 hx0.out),(cell_heapx hh).trans (sB h5 hx1.out)⟩
  refine rdH 7 rfl (fun K hK=>?_)
  clear hS
  go_simp
  go_wp2_with fail
  refine hKo hK s0 (fun hS=>?_)
  clear hK K
  refine wpAnyH_done (by kernel_rfl) ?_ _
  clear hS s0 g0 g1 f1
  go_wp2
  refine bodyPost_ret (v:=.agg #[.slice an5 A.vars.length cn5,.slice ar5 (sortR (decide (lang=1)) A.rows).length cr5]) (results_cell_row rfl _ _ (w.heap.size+1+1) 25 _ (0,0) _ rfl hd.out.1.eq Tryz.underlying25 rfl infoTab) rfl ⟨_,rfl,by rw[hz.out];exact hd.out.2⟩
end Go.Proofs.YtidplkfhodpdhaaGreatDoor.tab
