/- Texts VEqual, VLess, XName, one behind the other. -/
import Derived.Test.YtcaeipdgbaligaaGreatDoorVEq
set_option linter.unusedSimpArgs false
set_option linter.unusedVariables false
set_option maxRecDepth 100000
set_option maxHeartbeats 1000000
namespace Go.Proofs.YtcaeipdgbaligaaGreatDoor.val
open Go.ChangeShapes Go.WideShapes Go.ChangeAt Go.RowKit kit dec
theorem equalX_call(N:Nat)(lang:Int)(hN:N≤9223372036854775807)(w:World)(hE:EnvD w)(k:Int)(b:Bool)(n:Int)(hn:In64 n)(t x:ByteArray)(s:Value)(l:List V)(k2:Int)(bb:Bool)(n2:Int)(hn2:In64 n2)(t2 x2:ByteArray)(s2:Value)(l2:List V)
 (ha:LA w N s l)(ht:t.size≤N)(hx:x.size≤N)(ha2:LA w N s2 l2)(ht2:t2.size≤N)(hx2:x2.size≤N):
 Calls Tryz.prog 63 #[.int .i64 lang,agg6 k b n t x s,agg6 k2 bb n2 t2 x2 s2] w fun e w'=>e=.returned (.int .i64 (equalV (decide (lang=1)) (.mk k b n t x l) (.mk k2 bb n2 t2 x2 l2)))∧Below w.heap.size w w':=by
 have h2:=B2.made w (c6 k b n t x s) (c6 k2 bb n2 t2 x2 s2)
 have hc1:∀W,Below w.heap.size w W→Calls Tryz.prog 38 #[agg6 k b n t x s] W fun e w'=>e=.returned (.bool (mayV (.mk k b n t x l)))∧Below W.heap.size W w':=fun W hb=>check_any N hN W (hE.below hb).env k b n t x s l (ha.stay hb) ht hx
 have hc2:∀W,Below w.heap.size w W→Calls Tryz.prog 38 #[agg6 k2 bb n2 t2 x2 s2] W fun e w'=>e=.returned (.bool (mayV (.mk k2 bb n2 t2 x2 l2)))∧Below W.heap.size W w':=fun W hb=>check_any N hN W (hE.below hb).env k2 bb n2 t2 x2 s2 l2 (ha2.stay hb) ht2 hx2
 have heq:∀W,Below w.heap.size w W→Calls Tryz.prog 101 #[.int .i64 lang,agg6 k b n t x s,agg6 k2 bb n2 t2 x2 s2] W fun e w'=>e=.returned (.int .i64 (eqlV (decide (lang=1)) (.mk k b n t x l) (.mk k2 bb n2 t2 x2 l2)))∧Below W.heap.size W w':=fun W hb=>equal_allX N hN lang (SizeOf.sizeOf l+1) W (hE.below hb) k b n hn t x s l k2 bb n2 hn2 t2 x2 s2 l2 (Nat.lt_succ_self _) (ha.stay hb) (ha2.stay hb)
 unfold equalV
 generalize eqlV (decide (lang=1)) (.mk k b n t x l) (.mk k2 bb n2 t2 x2 l2)=R at *
 clear ha ha2 hE
 generalize mayV (.mk k b n t x l)=p at *
 generalize mayV (.mk k2 bb n2 t2 x2 l2)=p2 at *
 obtain⟨Q,hQ⟩:∃Q,(if(p&&p2)=true then R else 2)=Q:=⟨_,rfl⟩
 rw[hQ]
 replace hQ:=Hd hQ
 unfold agg6 at hc1 hc2 heq ⊢
 unfold c6 at h2
 replace hc1:=Hd hc1
 replace hc2:=Hd hc2
 replace heq:=Hd heq
 go_enter Tryz.func63,Tryz.ntmps63
 go_wp2_with fail
 refine(hc1.out _ h2.below).mono ?_
 rintro e w3 ⟨rfl,hb3⟩
 have h3:=h2.on hb3
 clear h2 hb3
 have x0:=h3.b0.cell 0 rfl
 have x1:=h3.b0.cell 1 rfl
 have x2':=h3.b0.cell 2 rfl
 have x3:=h3.b0.cell 3 rfl
 have x4:=h3.b0.cell 4 rfl
 have x5:=h3.b0.cell 5 rfl
 have y0:=h3.b1.cell 0 rfl
 have y1:=h3.b1.cell 1 rfl
 have y2:=h3.b1.cell 2 rfl
 have y3:=h3.b1.cell 3 rfl
 have y4:=h3.b1.cell 4 rfl
 have y5:=h3.b1.cell 5 rfl
 replace h3:=Hd h3
 cases p
 ·go_wp2
  go_ret
  exact⟨ret_int (by rw[←hQ.out];rfl),h3.out.below⟩
 ·go_wp2_with fail
  refine(hc2.out _ h3.out.below).mono ?_
  rintro e w4 ⟨rfl,hb4⟩
  have h4:=h3.out.on hb4
  clear h3 hb4 x0 x1 x2' x3 x4 x5 y0 y1 y2 y3 y4 y5
  have x0:=h4.b0.cell 0 rfl
  have x1:=h4.b0.cell 1 rfl
  have x2':=h4.b0.cell 2 rfl
  have x3:=h4.b0.cell 3 rfl
  have x4:=h4.b0.cell 4 rfl
  have x5:=h4.b0.cell 5 rfl
  have y0:=h4.b1.cell 0 rfl
  have y1:=h4.b1.cell 1 rfl
  have y2:=h4.b1.cell 2 rfl
  have y3:=h4.b1.cell 3 rfl
  have y4:=h4.b1.cell 4 rfl
  have y5:=h4.b1.cell 5 rfl
  replace h4:=Hd h4
  cases p2
  ·go_wp2
   go_ret
   exact⟨ret_int (by rw[←hQ.out];rfl),h4.out.below⟩
  ·go_wp2_with fail
   refine(heq.out _ h4.out.below).mono ?_
   rintro e w5 ⟨rfl,hb5⟩
   have hb6:=Hd (h4.out.below.trans (hb5.mono h4.out.below.size))
   clear hb5
   go_wp2
   go_ret
   exact⟨ret_int (by rw[←hQ.out];rfl),hb6.out⟩
end Go.Proofs.YtcaeipdgbaligaaGreatDoor.val
set_option linter.unusedSimpArgs false
set_option linter.unusedVariables false
set_option maxRecDepth 100000
set_option maxHeartbeats 2000000
namespace Go.Proofs.YtcaeipdgbaligaaGreatDoor.val
open Go.ChangeShapes Go.WideShapes Go.ChangeAt Go.RowKit kit dec
theorem less_facts(k:Int)(b:Bool)(n:Int)(t x:ByteArray)(l:List V)(k2:Int)(b2:Bool)(n2:Int)(t2 x2:ByteArray)(l2:List V):
 ((isNum k&&isNum k2)=true→b2i (decide (cmpI (numV k n t) (numV k2 n2 t2)<0))=lessW (.mk k b n t x l) (.mk k2 b2 n2 t2 x2 l2)) ∧
 ((isNum k&&isNum k2)=false→(k=4→k2=4→b2i (Op.bytesLess t.toList t2.toList)=lessW (.mk k b n t x l) (.mk k2 b2 n2 t2 x2 l2))∧(k=1→k2=1→b2i (!b&&b2)=lessW (.mk k b n t x l) (.mk k2 b2 n2 t2 x2 l2)) ∧
  (¬(k=4∧k2=4)→¬(k=1∧k2=1)→2=lessW (.mk k b n t x l) (.mk k2 b2 n2 t2 x2 l2))):=by
 unfold lessW
 dsimp only
 refine⟨fun h=>?_,fun h=>⟨fun h1 h2=>?_,fun h1 h2=>?_,fun h1 h2=>?_⟩⟩
 ·rw[if_pos h]
  congr 1
  rw[decide_eq_decide,cmpI_lt]
 ·rw[if_neg (by rw[h];decide),if_pos ⟨h1,h2⟩]
 ·rw[if_neg (by rw[h];decide),if_neg (by omega),if_pos ⟨h1,h2⟩]
 ·rw[if_neg (by rw[h];decide),if_neg h1,if_neg h2]
theorem less_call(N:Nat)(lang:Int)(hN:N≤9223372036854775807)(w:World)(hE:EnvD w)(k:Int)(b:Bool)(n:Int)(hn:In64 n)(t x:ByteArray)(s:Value)(l:List V)(k2:Int)(bb:Bool)(n2:Int)(hn2:In64 n2)(t2 x2:ByteArray)(s2:Value)(l2:List V)
 (ha:LA w N s l)(ht:t.size≤N)(hx:x.size≤N)(ha2:LA w N s2 l2)(ht2:t2.size≤N)(hx2:x2.size≤N):
 Calls Tryz.prog 65 #[.int .i64 lang,agg6 k b n t x s,agg6 k2 bb n2 t2 x2 s2] w fun e w'=>e=.returned (.int .i64 (lessV (.mk k b n t x l) (.mk k2 bb n2 t2 x2 l2)))∧Below w.heap.size w w':=by
 have h2:=B2.made w (c6 k b n t x s) (c6 k2 bb n2 t2 x2 s2)
 have hc1:∀W,Below w.heap.size w W→Calls Tryz.prog 38 #[agg6 k b n t x s] W fun e w'=>e=.returned (.bool (mayV (.mk k b n t x l)))∧Below W.heap.size W w':=fun W hb=>check_any N hN W (hE.below hb).env k b n t x s l (ha.stay hb) ht hx
 have hc2:∀W,Below w.heap.size w W→Calls Tryz.prog 38 #[agg6 k2 bb n2 t2 x2 s2] W fun e w'=>e=.returned (.bool (mayV (.mk k2 bb n2 t2 x2 l2)))∧Below W.heap.size W w':=fun W hb=>check_any N hN W (hE.below hb).env k2 bb n2 t2 x2 s2 l2 (ha2.stay hb) ht2 hx2
 have hcmp:∀W,Below w.heap.size w W→Calls Tryz.prog 104 #[agg6 k b n t x s,agg6 k2 bb n2 t2 x2 s2] W fun e w'=>e=.returned (.int .i64 (cmpI (numV k n t) (numV k2 n2 t2)))∧Below W.heap.size W w':=fun W hb=>compare_call k b n hn t x s k2 bb n2 hn2 t2 x2 s2 W (hE.below hb)
 have hnum:∀W,Calls Tryz.prog 68 #[agg6 k b n t x s] W fun e w'=>e=.returned (.bool (decide (k=2∨k=3)))∧Below W.heap.size W w':=fun W=>number_any k b n t x s W
 have hnum2:∀W,Calls Tryz.prog 68 #[agg6 k2 bb n2 t2 x2 s2] W fun e w'=>e=.returned (.bool (decide (k2=2∨k2=3)))∧Below W.heap.size W w':=fun W=>number_any k2 bb n2 t2 x2 s2 W
 obtain⟨hRy,hRn⟩:=less_facts k b n t x l k2 bb n2 t2 x2 l2
 unfold lessV
 generalize lessW (.mk k b n t x l) (.mk k2 bb n2 t2 x2 l2)=R at *
 clear ha ha2 hE
 generalize mayV (.mk k b n t x l)=p at *
 generalize mayV (.mk k2 bb n2 t2 x2 l2)=p2 at *
 obtain⟨Q,hQ⟩:∃Q,(if(p&&p2)=true then R else 2)=Q:=⟨_,rfl⟩
 rw[hQ]
 replace hQ:=Hd hQ
 unfold isNum at hRy hRn
 obtain⟨m1,hm1⟩:∃p,decide (k=2∨k=3)=p:=⟨_,rfl⟩
 obtain⟨m2,hm2⟩:∃p,decide (k2=2∨k2=3)=p:=⟨_,rfl⟩
 rw[hm1]at hnum
 rw[hm2]at hnum2
 rw[hm1,hm2]at hRy hRn
 clear hm1 hm2
 generalize cmpI (numV k n t) (numV k2 n2 t2)=Z at *
 unfold agg6 at hc1 hc2 hcmp hnum hnum2 ⊢
 unfold c6 at h2
 replace hc1:=Hd hc1
 replace hc2:=Hd hc2
 replace hcmp:=Hd hcmp
 replace hnum:=Hd hnum
 replace hnum2:=Hd hnum2
 replace hRy:=Hd hRy
 replace hRn:=Hd hRn
 go_enter Tryz.func65,Tryz.ntmps65
 go_wp2_with fail
 refine(hc1.out _ h2.below).mono ?_
 rintro e w3 ⟨rfl,hb3⟩
 have h3:=h2.on hb3
 clear h2 hb3
 have x0:=h3.b0.cell 0 rfl
 have x1:=h3.b0.cell 1 rfl
 have x2':=h3.b0.cell 2 rfl
 have x3:=h3.b0.cell 3 rfl
 have x4:=h3.b0.cell 4 rfl
 have x5:=h3.b0.cell 5 rfl
 have y0:=h3.b1.cell 0 rfl
 have y1:=h3.b1.cell 1 rfl
 have y2:=h3.b1.cell 2 rfl
 have y3:=h3.b1.cell 3 rfl
 have y4:=h3.b1.cell 4 rfl
 have y5:=h3.b1.cell 5 rfl
 replace h3:=Hd h3
 cases p
 ·go_wp2
  go_ret
  exact⟨ret_int (by rw[←hQ.out];rfl),h3.out.below⟩
 ·go_wp2_with fail
  refine(hc2.out _ h3.out.below).mono ?_
  rintro e w4 ⟨rfl,hb4⟩
  have h4:=h3.out.on hb4
  clear h3 hb4 x0 x1 x2' x3 x4 x5 y0 y1 y2 y3 y4 y5
  have x0:=h4.b0.cell 0 rfl
  have x1:=h4.b0.cell 1 rfl
  have x2':=h4.b0.cell 2 rfl
  have x3:=h4.b0.cell 3 rfl
  have x4:=h4.b0.cell 4 rfl
  have x5:=h4.b0.cell 5 rfl
  have y0:=h4.b1.cell 0 rfl
  have y1:=h4.b1.cell 1 rfl
  have y2:=h4.b1.cell 2 rfl
  have y3:=h4.b1.cell 3 rfl
  have y4:=h4.b1.cell 4 rfl
  have y5:=h4.b1.cell 5 rfl
  replace h4:=Hd h4
  cases p2
  ·go_wp2
   go_ret
   exact⟨ret_int (by rw[←hQ.out];rfl),h4.out.below⟩
  ·have hQ2:Hid (R=Q):=Hd (by have:=hQ.out;simpa using this)
   clear hQ
   go_wp2_with fail
   refine(hnum.out _).mono ?_
   rintro e w5 ⟨rfl,hb5⟩
   have h5:=h4.out.on hb5
   clear h4 hb5 x0 x1 x2' x3 x4 x5 y0 y1 y2 y3 y4 y5
   have x0:=h5.b0.cell 0 rfl
   have x1:=h5.b0.cell 1 rfl
   have x2':=h5.b0.cell 2 rfl
   have x3:=h5.b0.cell 3 rfl
   have x4:=h5.b0.cell 4 rfl
   have x5:=h5.b0.cell 5 rfl
   have y0:=h5.b1.cell 0 rfl
   have y1:=h5.b1.cell 1 rfl
   have y2:=h5.b1.cell 2 rfl
   have y3:=h5.b1.cell 3 rfl
   have y4:=h5.b1.cell 4 rfl
   have y5:=h5.b1.cell 5 rfl
   replace h5:=Hd h5
   cases m1
   ·replace hRn:=Hd (hRn.out rfl)
    by_cases ht4:k=4∧k2=4
    ·obtain⟨rfl,rfl⟩:=ht4
     have hR:=Hd ((hRn.out).1 rfl rfl)
     clear hRn
     go_wp2_with (go_at_call 103;refine(truth_b _ _).mono ?_;rintro e w9 ⟨rfl,hw9⟩;rw[hw9];clear hw9)
     go_ret
     exact⟨ret_int (by rw[hR.out];exact hQ2.out),h5.out.below⟩
    by_cases ht1:k=1∧k2=1
    ·obtain⟨rfl,rfl⟩:=ht1
     have hR:=Hd ((hRn.out).2.1 rfl rfl)
     clear hRn ht4
     cases b
     all_goals
      go_wp2_with (go_at_call 103;refine(truth_b _ _).mono ?_;rintro e w9 ⟨rfl,hw9⟩;rw[hw9];clear hw9)
      go_ret
      exact⟨ret_int (by rw[←hQ2.out,←hR.out];simp),h5.out.below⟩
    have hR:=Hd ((hRn.out).2.2 ht4 ht1)
    clear hRn
    obtain⟨q4,hq4⟩:∃q:Bool,(k==4)=q:=⟨_,rfl⟩
    obtain⟨q42,hq42⟩:∃q:Bool,(k2==4)=q:=⟨_,rfl⟩
    obtain⟨q1,hq1⟩:∃q:Bool,(k==1)=q:=⟨_,rfl⟩
    obtain⟨q12,hq12⟩:∃q:Bool,(k2==1)=q:=⟨_,rfl⟩
    have h44:(q4&&q42)=false:=by
     rw[←hq4,←hq42]
     apply Bool.eq_false_iff.2
     intro h
     rw[Bool.and_eq_true,beq_iff_eq,beq_iff_eq]at h
     exact ht4 h
    have h11:(q1&&q12)=false:=by
     rw[←hq1,←hq12]
     apply Bool.eq_false_iff.2
     intro h
     rw[Bool.and_eq_true,beq_iff_eq,beq_iff_eq]at h
     exact ht1 h
    clear ht4 ht1
    cases q4
    ·clear h44
     cases q1
     ·clear h11
      go_wp2
      go_ret
      exact⟨ret_int (by rw[←hQ2.out,←hR.out]),h5.out.below⟩
     ·obtain rfl:q12=false:=by simpa using h11
      go_wp2
      go_ret
      exact⟨ret_int (by rw[←hQ2.out,←hR.out]),h5.out.below⟩
    ·obtain rfl:q42=false:=by simpa using h44
     cases q1
     ·clear h11
      go_wp2
      go_ret
      exact⟨ret_int (by rw[←hQ2.out,←hR.out]),h5.out.below⟩
     ·obtain rfl:q12=false:=by simpa using h11
      go_wp2
      go_ret
      exact⟨ret_int (by rw[←hQ2.out,←hR.out]),h5.out.below⟩
   ·go_wp2_with fail
    refine(hnum2.out _).mono ?_
    rintro e w6 ⟨rfl,hb6⟩
    have h6:=h5.out.on hb6
    clear h5 hb6 x0 x1 x2' x3 x4 x5 y0 y1 y2 y3 y4 y5
    have x0:=h6.b0.cell 0 rfl
    have x1:=h6.b0.cell 1 rfl
    have x2':=h6.b0.cell 2 rfl
    have x3:=h6.b0.cell 3 rfl
    have x4:=h6.b0.cell 4 rfl
    have x5:=h6.b0.cell 5 rfl
    have y0:=h6.b1.cell 0 rfl
    have y1:=h6.b1.cell 1 rfl
    have y2:=h6.b1.cell 2 rfl
    have y3:=h6.b1.cell 3 rfl
    have y4:=h6.b1.cell 4 rfl
    have y5:=h6.b1.cell 5 rfl
    replace h6:=Hd h6
    cases m2
    ·replace hRn:=Hd (hRn.out rfl)
     by_cases ht4:k=4∧k2=4
     ·obtain⟨rfl,rfl⟩:=ht4
      have hR:=Hd ((hRn.out).1 rfl rfl)
      clear hRn
      go_wp2_with (go_at_call 103;refine(truth_b _ _).mono ?_;rintro e w9 ⟨rfl,hw9⟩;rw[hw9];clear hw9)
      go_ret
      exact⟨ret_int (by rw[hR.out];exact hQ2.out),h6.out.below⟩
     by_cases ht1:k=1∧k2=1
     ·obtain⟨rfl,rfl⟩:=ht1
      have hR:=Hd ((hRn.out).2.1 rfl rfl)
      clear hRn ht4
      cases b
      all_goals
       go_wp2_with (go_at_call 103;refine(truth_b _ _).mono ?_;rintro e w9 ⟨rfl,hw9⟩;rw[hw9];clear hw9)
       go_ret
       exact⟨ret_int (by rw[←hQ2.out,←hR.out];simp),h6.out.below⟩
     have hR:=Hd ((hRn.out).2.2 ht4 ht1)
     clear hRn
     obtain⟨q4,hq4⟩:∃q:Bool,(k==4)=q:=⟨_,rfl⟩
     obtain⟨q42,hq42⟩:∃q:Bool,(k2==4)=q:=⟨_,rfl⟩
     obtain⟨q1,hq1⟩:∃q:Bool,(k==1)=q:=⟨_,rfl⟩
     obtain⟨q12,hq12⟩:∃q:Bool,(k2==1)=q:=⟨_,rfl⟩
     have h44:(q4&&q42)=false:=by
      rw[←hq4,←hq42]
      apply Bool.eq_false_iff.2
      intro h
      rw[Bool.and_eq_true,beq_iff_eq,beq_iff_eq]at h
      exact ht4 h
     have h11:(q1&&q12)=false:=by
      rw[←hq1,←hq12]
      apply Bool.eq_false_iff.2
      intro h
      rw[Bool.and_eq_true,beq_iff_eq,beq_iff_eq]at h
      exact ht1 h
     clear ht4 ht1
     cases q4
     ·clear h44
      cases q1
      ·clear h11
       go_wp2
       go_ret
       exact⟨ret_int (by rw[←hQ2.out,←hR.out]),h6.out.below⟩
      ·obtain rfl:q12=false:=by simpa using h11
       go_wp2
       go_ret
       exact⟨ret_int (by rw[←hQ2.out,←hR.out]),h6.out.below⟩
     ·obtain rfl:q42=false:=by simpa using h44
      cases q1
      ·clear h11
       go_wp2
       go_ret
       exact⟨ret_int (by rw[←hQ2.out,←hR.out]),h6.out.below⟩
      ·obtain rfl:q12=false:=by simpa using h11
       go_wp2
       go_ret
       exact⟨ret_int (by rw[←hQ2.out,←hR.out]),h6.out.below⟩
    ·have hR:=Hd (hRy.out rfl)
     clear hRn hRy
     go_wp2_with fail
     refine(hcmp.out _ h6.out.below).mono ?_
     rintro e w7 ⟨rfl,hb7⟩
     have hbe:=Hd (h6.out.on hb7).below
     clear h6 hb7
     go_wp2_with (go_at_call 103;refine(truth_b _ _).mono ?_;rintro e w9 ⟨rfl,hw9⟩;rw[hw9];clear hw9)
     go_ret
     exact⟨ret_int (by rw[←hQ2.out,←hR.out]),hbe.out⟩
end Go.Proofs.YtcaeipdgbaligaaGreatDoor.val
set_option linter.unusedSimpArgs false
set_option linter.unusedVariables false
namespace Go.Proofs.YtcaeipdgbaligaaGreatDoor.ex
open Go.ChangeShapes Go.WideShapes Go.ChangeAt Go.RowKit kit dec val
set_option maxRecDepth 100000
theorem name_may(t:ByteArray):mayV (.mk 9 false 0 t ByteArray.empty [])=nameB t:=by
 unfold mayV
 show chkW _ _=_
 simp[chkW,emp]
theorem vcheck_name(w:World)(hE:Env w)(t:ByteArray)(ht:t.size≤1048576):Calls Tryz.prog 38 #[.agg #[.int .i64 9,.bool false,.int .i64 0,.string t,.string ByteArray.empty,.slice none 0 0]] w fun e w'=>e=.returned (.bool (nameB t))∧Below w.heap.size w w':=by
 have h:=check_any 1048576 (by omega) w hE 9 false 0 t ByteArray.empty (.slice none 0 0) [] (.mk none 0 [] (by simp) (fun j hj=>by simp at hj)) ht (by decide)
 rw[name_may]at h
 exact h
theorem xname_any(w:World)(hE:Env w)(t:ByteArray)(ht:t.size≤1048576):Calls Tryz.prog 78 #[.string t] w fun e w'=>e=.returned (.bool (nameB t))∧Below w.heap.size w w':=by
 have cV:=Hd (vcheck_name w hE t ht)
 go_enter Tryz.func78,Tryz.ntmps78
 go_wp2_with fail
 refine cV.out.mono ?_
 rintro e w2 ⟨rfl,hb2⟩
 go_wp2
 go_ret
 exact⟨rfl,hb2⟩
theorem xcomp_any(w:World)(op:Int):Calls Tryz.prog 34 #[.int .i64 op] w fun e w'=>e=.returned (.bool (decide (9≤op∧op≤14)))∧w'=w:=by
 by_cases h1:9≤op
 ·by_cases h2:op≤14
  ·rw[decide_eq_true ⟨h1,h2⟩]
   go_enter Tryz.func34,Tryz.ntmps34
   go_wp2
   go_ret
   exact⟨rfl,rfl⟩
  ·rw[decide_eq_false (fun h=>h2 h.2)]
   go_enter Tryz.func34,Tryz.ntmps34
   go_wp2
   go_ret
   exact⟨rfl,rfl⟩
 ·rw[decide_eq_false (fun h=>h1 h.1)]
  go_enter Tryz.func34,Tryz.ntmps34
  go_wp2
  go_ret
  exact⟨rfl,rfl⟩
end Go.Proofs.YtcaeipdgbaligaaGreatDoor.ex
