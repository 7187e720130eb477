/- Texts ValChk, VSameA, one behind the other. -/
import Derived.Test.YtcaeipdgbaligaaGreatDoorValCkA
import Derived.Deep.RegionHeld3
set_option linter.unusedSimpArgs false
set_option linter.unusedVariables false
set_option maxRecDepth 100000
set_option maxHeartbeats 1000000
namespace Go.Proofs.YtcaeipdgbaligaaGreatDoor.val
open Go.ChangeShapes Go.WideShapes Go.ChangeAt Go.RowKit kit dec
def Chk(N d:Nat):Prop:=∀(w:World) (hE:Env w) (k:Int) (b:Bool) (n:Int) (t x:ByteArray) (s:Value) (l:List V),LA w N s l→t.size≤N→x.size≤N →
 Calls Tryz.prog 61 #[agg6 k b n t x s,.int .i64 ((60-d:Nat):Int)] w fun e w'=>e=.returned (.bool (chkV d (.mk k b n t x l)))∧Below w.heap.size w w'
theorem each_any(N d:Nat)(hd:d<60)(hc:Chk N d)(w:World)(hE:Env w)(B:Nat)(hB:w.cell? ⟨B,0,none⟩=some (.int .i64 ((60-(d+1):Nat):Int)))(k:Int)(b:Bool)(n:Int)(t x:ByteArray)(s:Value)(l:List V)(ha:LA w N s l)(ht:t.size≤N)(hx:x.size≤N):
 Calls Tryz.prog 100 #[agg6 k b n t x s,.pointer (some ⟨B,0,none⟩)] w fun e w'=>e=.returned (.bool (!chkV d (.mk k b n t x l)))∧Below w.heap.size w w':=by
 have hal:Below w.heap.size w (w.alloc (.cells #[.int .i64 k,.bool b,.int .i64 n,.string t,.string x,s] 38)):=(Below.refl _ _).alloc (Nat.le_refl _) _
 have hcall:=hc (w.alloc (.cells #[.int .i64 k,.bool b,.int .i64 n,.string t,.string x,s] 38)) (hE.below hal) k b n t x s l (ha.stay hal) ht hx
 have hbk:Blk (w.alloc (.cells #[.int .i64 k,.bool b,.int .i64 n,.string t,.string x,s] 38)) w.heap.size #[.int .i64 k,.bool b,.int .i64 n,.string t,.string x,s] 38:=Blk.new _ _ _
 have hBl:B<w.heap.size:=by
  obtain⟨ob,ho,_⟩:=cells_of_cell hB
  exact(Array.getElem?_eq_some_iff.1 ho).1
 have cB:=(hal.cell (p:=⟨B,0,none⟩) hBl).trans hB
 obtain⟨c,hcc⟩:∃c,chkV d (.mk k b n t x l)=c:=⟨_,rfl⟩
 rw[hcc]at hcall ⊢
 obtain⟨m,hm⟩:∃m:Nat,60-(d+1)=m:=⟨_,rfl⟩
 rw[hm]at cB
 rw[show 60-d=m+1 by omega]at hcall
 have hm60:m<60:=by omega
 clear hcc hc hB
 unfold agg6 at hcall ⊢
 rw[show((m+1:Nat):Int)=(m:Int)+1 by omega]at hcall
 replace hcall:=Hd hcall
 go_enter Tryz.func100,Tryz.ntmps100
 go_wp2_with fail
 refine hcall.out.mono ?_
 rintro e w2 ⟨rfl,hb2⟩
 go_wp2
 go_ret
 exact⟨rfl,hal.trans (hb2.mono hal.size)⟩
theorem index_any(N d:Nat)(hN:N≤9223372036854775807)(hd:d<60)(hc:Chk N d)(w:World)(hE:Env w)(B:Nat)(hB:w.cell? ⟨B,0,none⟩=some (.int .i64 ((60-(d+1):Nat):Int)))(ao:Option Addr)(cap:Nat)(l:List V)(hl:l.length≤N)
 (ha:∀j (hj:j<l.length),EA w N ao (6 * j) l[j]):
 Calls Tryz.prog 130 #[.slice ao l.length cap,.func (.func 100) #[] #[.pointer (some ⟨B,0,none⟩)]] w fun e w'=>∃i:Int,e=.returned (.int .i64 i)∧decide (0≤i)=!l.all (chkV d)∧Below w.heap.size w w':=by
 have hBl:B<w.heap.size:=by
  obtain⟨ob,ho,_⟩:=cells_of_cell hB
  exact(Array.getElem?_eq_some_iff.1 ho).1
 replace ha:=Hd ha
 replace hc:=Hd hc
 replace hB:=Hd hB
 replace hE:=Hd hE
 have hli:(l.length:Int)≤9223372036854775807:=by omega
 go_enter Tryz.func130,Tryz.ntmps130
 go_wp2
 go_loopw [8] (fun v wr=>∃k:Nat,k≤l.length∧v=.int .i64 k∧Hid (Below w.heap.size w wr)∧Hid (∀j (hj:j<l.length),j<k→chkV d l[j]=true)) (fun v _=>l.length-(intOf v).toNat)
 case atStart=>exact⟨0,by omega,rfl,Below.refl _ _,fun j _ h=>by omega⟩
 case round =>
  obtain⟨k,hk,rfl,hb,hall⟩:=hrel
  by_cases hlt:k<l.length
  ·have hki:(k:Int)<(l.length:Int):=by omega
   have hel:=(ha.out k hlt).stay hb.out
   have hB1:=(hb.out.cell (p:=⟨B,0,none⟩) hBl).trans hB.out
   have hE1:=hE.out.below hb.out
   obtain⟨v,hv⟩:∃v,l[k]=v:=⟨_,rfl⟩
   rw[hv,Nat.mul_comm 6 k]at hel
   replace hv:=Hd hv
   cases hel with
   | mk b off o k1 bo n t x l1 s hr hk1 hn ht hx hs =>
    have x0:=hr.c0
    have x1:=hr.c1
    have x2:=hr.c2
    have x3:=hr.c3
    have x4:=hr.c4
    have x5:=hr.c5
    have hcl:=each_any N d hd hc.out wr hE1 B hB1 k1 bo n t x s l1 hs ht hx
    unfold agg6 at hcl
    replace hcl:=Hd hcl
    have hR:∀c,chkV d (.mk k1 bo n t x l1)=c→(c=false→l.all (chkV d)=false)∧(c=true→∀j (hj:j<l.length),j<k+1→chkV d l[j]=true):=fun c h=>by
     rw[←hv.out]at h
     refine⟨fun e=>?_,fun e j hj hjk=>?_⟩
     ·rw[List.all_eq_false]
      exact⟨l[k],List.getElem_mem hlt,by rw[h,e];decide⟩
     ·rcases Nat.lt_or_ge j k with h1|h1
      ·exact hall.out j hj h1
      ·obtain rfl:j=k:=by omega
       rw[h];exact e
    obtain⟨c,hcc⟩:∃c,chkV d (.mk k1 bo n t x l1)=c:=⟨_,rfl⟩
    rw[hcc]at hcl
    have hR2:=hR c hcc
    clear hR hcc hall hr hs hk1 hn ht hx hv
    go_wp2_with fail
    refine hcl.out.mono ?_
    rintro e w2 ⟨rfl,hb2⟩
    have hb3:=Hd (hb.out.trans (hb2.mono hb.out.size))
    clear hb2 hcl
    cases c
    ·have hf:=hR2.1 rfl
     clear hR2
     go_wp2
     go_ret
     exact⟨(k:Int),rfl,by rw[hf];simp,hb3.out⟩
    ·have hf:=Hd (hR2.2 rfl)
     clear hR2
     go_wp2
     go_roundw
     case rel=>exact⟨k+1,by omega,by go_num,hb3,hf⟩
     case measure=>simp[intOf];omega
  ·have hki:¬(k:Int)<(l.length:Int):=by omega
   have hf:l.all (chkV d)=true:=by
    rw[List.all_eq_true]
    intro v hv
    obtain⟨j,hj,rfl⟩:=List.getElem_of_mem hv
    exact hall.out j hj (by omega)
   replace hf:=Hd hf
   clear hall
   go_wp2
   go_ret
   exact⟨-1,rfl,by rw[hf.out];decide,hb.out⟩
theorem contains_any(N d:Nat)(hN:N≤9223372036854775807)(hd:d<60)(hc:Chk N d)(w:World)(hE:Env w)(B:Nat)(hB:w.cell? ⟨B,0,none⟩=some (.int .i64 ((60-(d+1):Nat):Int)))(ao:Option Addr)(cap:Nat)(l:List V)(hl:l.length≤N)
 (ha:∀j (hj:j<l.length),EA w N ao (6 * j) l[j]):
 Calls Tryz.prog 99 #[.slice ao l.length cap,.func (.func 100) #[] #[.pointer (some ⟨B,0,none⟩)]] w fun e w'=>e=.returned (.bool (!l.all (chkV d)))∧Below w.heap.size w w':=by
 have hi:=index_any N d hN hd hc w hE B hB ao cap l hl ha
 replace hi:=Hd hi
 clear ha hB hc hE
 go_enter Tryz.func99,Tryz.ntmps99
 go_wp2_with fail
 refine hi.out.mono ?_
 rintro e w2 ⟨i,rfl,hi2,hb2⟩
 go_wp2
 go_ret
 exact⟨rfl,hb2⟩
theorem checked5_0(b:Bool)(n:Int)(t x:ByteArray)(ao:Option Addr)(len cap:Nat)(w:World):
 Calls Tryz.prog 61 #[agg6 5 b n t x (.slice ao len cap),.int .i64 ((60:Nat):Int)] w fun e w'=>e=.returned (.bool false)∧Below w.heap.size w w':=by
 obtain⟨deep,hdp⟩:∃m:Nat,60=m:=⟨_,rfl⟩
 rw[hdp]
 have hdi:(60:Int)≤(deep:Int):=by omega
 have hdd:decide ((60:Int)≤(deep:Int))=true:=decide_eq_true hdi
 clear hdp
 have hpt:=Hd (fun w=>part_any (5) b n t x (.slice ao len cap) w)
 unfold agg6 at hpt ⊢
 go_enter Tryz.func61,Tryz.ntmps61
 go_wp2_with fail
 refine(hpt.out _).mono ?_
 rintro e w1 ⟨he,hb1⟩
 have cw:=(CW.made w (5) b n t x (.slice ao len cap) deep).on hb1
 clear hb1 hpt
 obtain⟨x0,x1,x2,x3,x4,x5,y0,z0,z1,z2,z3,z4,z5,f0,f1,f2,f3,f4⟩:=cw.facts
 replace cw:=Hd cw
 obtain rfl:e=.returned (.iface 153 (.slice ao len cap)):=he
 have ta0:=ta_5_0
 have ta1:=ta_5_1
 have ta2:=ta_5_2
 have ta3:=ta_5_3
 have ta4:=ta_5_4
 have ta5:=ta_5_5
 by_cases hl:4096<len
 ·have hli:(4096:Int)<(len:Int):=by omega
  go_wp2
  go_ret
  exact⟨rfl,cw.out.below⟩
 ·have hli:¬(4096:Int)<(len:Int):=by omega
  go_wp2
  go_ret
  exact⟨rfl,cw.out.below⟩
theorem checked5(b:Bool)(n:Int)(t x:ByteArray)(ao:Option Addr)(len cap:Nat)(deep:Nat)(hd:deep<60)(w:World)(c:Bool)
 (hcont:∀W,Below w.heap.size w W→W.cell? ⟨w.heap.size+1,0,none⟩=some (.int .i64 deep)→Calls Tryz.prog 99 #[.slice ao len cap,.func (.func 100) #[] #[.pointer (some ⟨w.heap.size+1,0,none⟩)]] W fun e w'=>e=.returned (.bool (!c))∧Below W.heap.size W w'):
 Calls Tryz.prog 61 #[agg6 5 b n t x (.slice ao len cap),.int .i64 deep] w fun e w'=>e=.returned (.bool (!b&&decide (n=0)&&emp t&&emp x&&decide (len≤4096)&&c))∧Below w.heap.size w w':=by
 have hdd:decide ((60:Int)≤(deep:Int))=false:=decide_eq_false (by omega)
 have hdi:¬(60:Int)≤(deep:Int):=by omega
 replace hcont:=Hd hcont
 have hpt:=Hd (fun w=>part_any (5) b n t x (.slice ao len cap) w)
 unfold agg6 at hpt ⊢
 go_enter Tryz.func61,Tryz.ntmps61
 go_wp2_with fail
 refine(hpt.out _).mono ?_
 rintro e w1 ⟨he,hb1⟩
 have cw:=(CW.made w (5) b n t x (.slice ao len cap) deep).on hb1
 clear hb1 hpt
 obtain⟨x0,x1,x2,x3,x4,x5,y0,z0,z1,z2,z3,z4,z5,f0,f1,f2,f3,f4⟩:=cw.facts
 replace cw:=Hd cw
 obtain rfl:e=.returned (.iface 153 (.slice ao len cap)):=he
 have ta0:=ta_5_0
 have ta1:=ta_5_1
 have ta2:=ta_5_2
 have ta3:=ta_5_3
 have ta4:=ta_5_4
 have ta5:=ta_5_5
 by_cases hl:4096<len
 ·have hli:(4096:Int)<(len:Int):=by omega
  go_wp2
  go_ret
  exact⟨ret_bool (by rw[decide_eq_false (show ¬len≤4096 by omega)];simp),cw.out.below⟩
 ·have hli:¬(4096:Int)<(len:Int):=by omega
  have hl4:len≤4096:=by omega
  have hct:=Hd (hcont.out w1 cw.out.below y0)
  cases c
  ·go_wp2_with (go_at_call 99;refine hct.out.mono ?_;rintro e w2 ⟨rfl,hb2⟩)
   go_ret
   exact⟨ret_bool (by simp),(cw.out.on hb2).below⟩
  ·go_upto_region 46 with(go_at_call 99;refine hct.out.mono ?_;rintro e w2 ⟨rfl,hb2⟩)
   clear ta0 ta1 ta2 ta3 ta4 ta5
   have ce:=cw.out.ce.on hb2
   clear hct hb2 hcont
   clear x0 x1 x2 x3 x4 x5 y0 z0 z1 z2 z3 z4 z5 f0 f1 f2 f3 f4
   have x0:=ce.b0.cell 0 rfl
   have x1:=ce.b0.cell 1 rfl
   have x2:=ce.b0.cell 2 rfl
   have x3:=ce.b0.cell 3 rfl
   have x4:=ce.b0.cell 4 rfl
   have x5:=ce.b0.cell 5 rfl
   have z1:=ce.b2.cell 1 rfl
   have z2:=ce.b2.cell 2 rfl
   have z3:=ce.b2.cell 3 rfl
   have z4:=ce.b2.cell 4 rfl
   have hbe:=Hd ce.below
   clear ce cw
   cases b
   case true=>
    go_wp2;go_ret;exact⟨ret_bool (by simp[*]),hbe.out⟩
   by_cases hn:n=0
   case neg=>
    have hnb:(n==0)=false:=beq_eq_false_iff_ne.2 hn
    go_wp2;go_ret;exact⟨ret_bool (by simp[*]),hbe.out⟩
   subst hn
   cases ht:emp t
   case false=>
    have htb:=emp_no ht
    go_wp2;go_ret;exact⟨ret_bool (by simp[*]),hbe.out⟩
   obtain rfl:=(emp_iff t).1 ht
   cases hx:emp x
   case false=>
    have hxb:=emp_no hx
    go_wp2;go_ret;exact⟨ret_bool (by simp[*]),hbe.out⟩
   obtain rfl:=(emp_iff x).1 hx
   by_cases hlz:len=0
   ·subst hlz
    go_wp2
    go_ret
    exact⟨ret_bool (by simp[*]),hbe.out⟩
   ·have hlb:((len:Int)==0)=false:=beq_eq_false_iff_ne.2 (by omega)
    go_wp2
    go_ret
    exact⟨ret_bool (by simp[*]),hbe.out⟩
theorem checkedK(k:Int)(h0:k≠0)(h1:k≠1)(h2:k≠2)(h3:k≠3)(h4:k≠4)(h5:k≠5)(h6:k≠6)(h7:k≠7)(h8:k≠8)(h9:k≠9)(h10:k≠10)(b:Bool)(n:Int)(t x:ByteArray)(ao:Option Addr)(len cap:Nat)(deep:Nat)(w:World):
 Calls Tryz.prog 61 #[agg6 k b n t x (.slice ao len cap),.int .i64 deep] w fun e w'=>e=.returned (.bool false)∧Below w.heap.size w w':=by
 have hp:partV k b n t x (.slice ao len cap)=.iface 158 (.int .i64 k):=by
  unfold partV
  rw[if_neg h0,if_neg h1,if_neg h2,if_neg h3,if_neg (by omega),if_neg h5,if_neg (by omega),if_neg h10]
 have hpt:=Hd (fun w=>part_any (k) b n t x (.slice ao len cap) w)
 unfold agg6 at hpt ⊢
 go_enter Tryz.func61,Tryz.ntmps61
 go_wp2_with fail
 refine(hpt.out _).mono ?_
 rintro e w1 ⟨he,hb1⟩
 have cw:=(CW.made w (k) b n t x (.slice ao len cap) deep).on hb1
 clear hb1 hpt
 obtain⟨x0,x1,x2,x3,x4,x5,y0,z0,z1,z2,z3,z4,z5,f0,f1,f2,f3,f4⟩:=cw.facts
 replace cw:=Hd cw
 rw[hp]at he
 subst he
 clear hp h0 h1 h2 h3 h4 h5 h6 h7 h8 h9 h10
 have ta0:=ta_8_0
 have ta1:=ta_8_1
 have ta2:=ta_8_2
 have ta3:=ta_8_3
 have ta4:=ta_8_4
 have ta5:=ta_8_5
 have ta6:=ta_8_6
 have ta7:=ta_8_7
 have ta8:=ta_8_8
 go_wp2
 go_ret
 exact⟨rfl,cw.out.below⟩
theorem checked10(b:Bool)(n:Int)(t x:ByteArray)(ao:Option Addr)(len cap:Nat)(deep:Nat)(w:World)(hts:t.size≤9223372036854775807)(hxs:x.size≤9223372036854775807):
 Calls Tryz.prog 61 #[agg6 10 b n t x (.slice ao len cap),.int .i64 deep] w fun e w'=>e=.returned (.bool (!b&&decide (n=0)&&decide (len=0)&&decide (t.size≤1048576)&&iriB x))∧Below w.heap.size w w':=by
 have htsi:(t.size:Int)≤9223372036854775807:=by omega
 have hir:=fun w=>iri_any x w hxs
 generalize iriB x=c at *
 replace hir:=Hd hir
 have hpt:=Hd (fun w=>part_any (10) b n t x (.slice ao len cap) w)
 unfold agg6 at hpt ⊢
 go_enter Tryz.func61,Tryz.ntmps61
 go_wp2_with fail
 refine(hpt.out _).mono ?_
 rintro e w1 ⟨he,hb1⟩
 have cw:=(CW.made w (10) b n t x (.slice ao len cap) deep).on hb1
 clear hb1 hpt
 obtain⟨x0,x1,x2,x3,x4,x5,y0,z0,z1,z2,z3,z4,z5,f0,f1,f2,f3,f4⟩:=cw.facts
 replace cw:=Hd cw
 obtain rfl:e=.returned (.iface 157 (.agg #[.string t,.string x])):=he
 have ta0:=ta_7_0
 have ta1:=ta_7_1
 have ta2:=ta_7_2
 have ta3:=ta_7_3
 have ta4:=ta_7_4
 have ta5:=ta_7_5
 have ta6:=ta_7_6
 have ta7:=ta_7_7
 go_upto_region 40 with fail
 clear ta0 ta1 ta2 ta3 ta4 ta5 ta6 ta7
 clear x0 x1 x2 x3 x4 x5 y0 z0 z1 z2 z3 z4 z5 f0 f1 f2 f3 f4
 have hal:Below w1.heap.size w1 (w1.alloc (.cells #[.string t,.string x] 157)):=(Below.refl _ _).alloc (Nat.le_refl _) _
 have cw2:=cw.out.on hal
 have bl:Blk (w1.alloc (.cells #[.string t,.string x] 157)) w1.heap.size #[.string t,.string x] 157:=Blk.new _ _ _
 have hgl:w.heap.size+1+1<w1.heap.size:=cw.out.b2.lt
 clear cw
 generalize w1.alloc (.cells #[.string t,.string x] 157)=w2 at *
 generalize w1.heap.size=g at *
 clear hal
 obtain⟨x0,x1,x2,x3,x4,x5,y0,z0,z1,z2,z3,z4,z5,f0,f1,f2,f3,f4⟩:=cw2.facts
 have l0:w2.cell? ⟨g,0,none⟩=some (.string t):=bl.cell 0 rfl
 have l1:w2.cell? ⟨g,1,none⟩=some (.string x):=bl.cell 1 rfl
 replace cw2:=Hd cw2
 by_cases hm:t.size≤1048576
 ·have hmi:decide ((1048576:Int)<(t.size:Int))=false:=decide_eq_false (by omega)
  have hmi2:¬(1048576:Int)<(t.size:Int):=by omega
  cases c
  ·go_wp2_with (go_at_call 97;refine(hir.out _).mono ?_;rintro e w3 ⟨rfl,hw3⟩;rw[hw3];clear hw3)
   go_ret
   exact⟨ret_bool (by simp),cw2.out.below⟩
  ·go_upto_region 42 with(go_at_call 97;refine(hir.out _).mono ?_;rintro e w3 ⟨rfl,hw3⟩;rw[hw3];clear hw3)
   have ce:CE w (((w2.setCell ⟨w.heap.size+1+1,3,none⟩ (.string t)).setCell ⟨w.heap.size+1+1,4,none⟩ (.string x)).drew) 10 b n t x (.slice ao len cap) false 0 t x:=((cw2.out.ce.text t).extra x).on (below_drewN (Below.refl _ _) 1)
   go_region
   obtain⟨w4,hw4⟩:∃w4,w4=((w2.setCell ⟨w.heap.size+1+1,3,none⟩ (.string t)).setCell ⟨w.heap.size+1+1,4,none⟩ (.string x)).drew:=⟨_,rfl⟩
   rw[←hw4]at ce ⊢
   clear hw4 x0 x1 x2 x3 x4 x5 y0 z0 z1 z2 z3 z4 z5 f0 f1 f2 f3 f4 l0 l1 cw2 bl
   go_upto_region 46 with fail
   have x0:=ce.b0.cell 0 rfl
   have x1:=ce.b0.cell 1 rfl
   have x2:=ce.b0.cell 2 rfl
   have x3:=ce.b0.cell 3 rfl
   have x4:=ce.b0.cell 4 rfl
   have x5:=ce.b0.cell 5 rfl
   have z1:=ce.b2.cell 1 rfl
   have z2:=ce.b2.cell 2 rfl
   have z3:=ce.b2.cell 3 rfl
   have z4:=ce.b2.cell 4 rfl
   have hbe:=Hd ce.below
   clear ce
   cases b
   case true=>
    go_wp2;go_ret;exact⟨ret_bool (by simp[*]),hbe.out⟩
   by_cases hn:n=0
   case neg=>
    have hnb:(n==0)=false:=beq_eq_false_iff_ne.2 hn
    go_wp2;go_ret;exact⟨ret_bool (by simp[*]),hbe.out⟩
   subst hn
   by_cases hl:len=0
   case neg=>
    have hlb:((len:Int)==0)=false:=beq_eq_false_iff_ne.2 (by omega)
    go_wp2;go_ret;exact⟨ret_bool (by simp[*]),hbe.out⟩
   subst hl
   go_wp2;go_ret;exact⟨ret_bool (by simp[*]),hbe.out⟩
 ·have hmi:decide ((1048576:Int)<(t.size:Int))=true:=decide_eq_true (by omega)
  have hmi2:(1048576:Int)<(t.size:Int):=by omega
  go_wp2
  go_ret
  exact⟨ret_bool (by rw[decide_eq_false hm];simp),cw2.out.below⟩
theorem chkW_other(f:List V→Bool)(k:Int)(h0:k≠0)(h1:k≠1)(h2:k≠2)(h3:k≠3)(h4:k≠4)(h5:k≠5)(h6:k≠6)(h7:k≠7)(h8:k≠8)(h9:k≠9)(h10:k≠10)(b:Bool)(n:Int)(t x:ByteArray)(l:List V):chkW f (.mk k b n t x l)=false:=by
 unfold chkW
 dsimp only
 rw[if_neg h0,if_neg h1,if_neg h2,if_neg h3,if_neg h4,if_neg h5,if_neg (by omega),if_neg h8,if_neg h9,if_neg h10]
theorem chk_step(N deep:Nat)(hN:N≤9223372036854775807)(f:List V→Bool)
 (h5:∀(w:World) (hE:Env w) (b:Bool) (n:Int) (t x:ByteArray) (ao:Option Addr) (cap:Nat) (l:List V),l.length≤N→(∀j (hj:j<l.length),EA w N ao (6 * j) l[j]) →
  Calls Tryz.prog 61 #[agg6 5 b n t x (.slice ao l.length cap),.int .i64 deep] w fun e w'=>e=.returned (.bool (!b&&decide (n=0)&&emp t&&emp x&&decide (l.length≤4096)&&f l))∧Below w.heap.size w w'):
 ∀(w:World) (hE:Env w) (k:Int) (b:Bool) (n:Int) (t x:ByteArray) (s:Value) (l:List V),LA w N s l→t.size≤N→x.size≤N →
  Calls Tryz.prog 61 #[agg6 k b n t x s,.int .i64 deep] w fun e w'=>e=.returned (.bool (chkW f (.mk k b n t x l)))∧Below w.heap.size w w':=by
 intro w hE k b n t x s l ha ht hx
 cases ha with
 | mk ao cap l hl h =>
  rcases kinds k with rfl|rfl|rfl|rfl|rfl|rfl|rfl|rfl|rfl|rfl|rfl|⟨h0,h1,h2,h3,h4,h5,h6,h7,h8,h9,h10⟩
  ·exact checked0 b n t x ao l.length cap deep w
  ·exact checked1 b n t x ao l.length cap deep w
  ·exact checked2 b n t x ao l.length cap deep w
  ·exact checked3 b n t x ao l.length cap deep w hE
  ·exact checked4 b n t x ao l.length cap deep w (by omega)
  ·exact h5 w hE b n t x ao cap l hl h
  ·exact checked6 6 (.inl rfl) b n t x ao l.length cap deep w
  ·exact checked6 7 (.inr rfl) b n t x ao l.length cap deep w
  ·exact checked8 b n t x ao l.length cap deep w (by omega)
  ·exact checked9 b n t x ao l.length cap deep w (by omega)
  ·exact checked10 b n t x ao l.length cap deep w (by omega) (by omega)
  ·rw[chkW_other f k h0 h1 h2 h3 h4 h5 h6 h7 h8 h9 h10]
   exact checkedK k h0 h1 h2 h3 h4 h5 h6 h7 h8 h9 h10 b n t x ao l.length cap deep w
theorem chk_all(N:Nat)(hN:N≤9223372036854775807):∀d,d≤60→Chk N d:=by
 intro d
 induction d with
 |zero=>
  intro _
  refine chk_step N 60 hN (fun _=>false) (fun w hE b n t x ao cap l hl h=>?_)
  rw[Bool.and_false]
  exact checked5_0 b n t x ao l.length cap w
 |succ d ih=>
  intro hd
  have hc:=ih (by omega)
  refine chk_step N (60-(d+1)) hN (fun l=>l.all (chkV d)) (fun w hE b n t x ao cap l hl h=>?_)
  refine checked5 b n t x ao l.length cap (60-(d+1)) (by omega) w (l.all (chkV d)) (fun W hb hy=>?_)
  exact contains_any N d hN (by omega) hc W (hE.below hb) (w.heap.size+1) hy ao cap l hl (fun j hj=>(h j hj).stay hb)
def mayV(v:V):Bool:=chkV 60 v
theorem check_any(N:Nat)(hN:N≤9223372036854775807)(w:World)(hE:Env w)(k:Int)(b:Bool)(n:Int)(t x:ByteArray)(s:Value)(l:List V)(ha:LA w N s l)(ht:t.size≤N)(hx:x.size≤N):
 Calls Tryz.prog 38 #[agg6 k b n t x s] w fun e w'=>e=.returned (.bool (mayV (.mk k b n t x l)))∧Below w.heap.size w w':=by
 have hal:Below w.heap.size w (w.alloc (.cells #[.int .i64 k,.bool b,.int .i64 n,.string t,.string x,s] 38)):=(Below.refl _ _).alloc (Nat.le_refl _) _
 have hcl:=chk_all N hN 60 (Nat.le_refl _) _ (hE.below hal) k b n t x s l (ha.stay hal) ht hx
 unfold mayV
 generalize chkV 60 (.mk k b n t x l)=c at *
 rw[show((60-60:Nat):Int)=0 from rfl]at hcl
 unfold agg6 at hcl ⊢
 replace hcl:=Hd hcl
 clear ha hE
 go_enter Tryz.func38,Tryz.ntmps38
 go_wp2_with fail
 refine hcl.out.mono ?_
 rintro e w2 ⟨rfl,hb2⟩
 go_wp2
 go_ret
 exact⟨rfl,hal.trans (hb2.mono hal.size)⟩
end Go.Proofs.YtcaeipdgbaligaaGreatDoor.val
set_option linter.unusedSimpArgs false
set_option linter.unusedVariables false
set_option maxRecDepth 100000
set_option maxHeartbeats 1000000
namespace Go.Proofs.YtcaeipdgbaligaaGreatDoor.val
open Go.RowKit dec
theorem toList_inj{a b:ByteArray}(h:a.toList=b.toList):a=b:=by
 rw[Go.ByteArray.toList_eq,Go.ByteArray.toList_eq]at h
 exact ba_ext h
def b2i(b:Bool):Int:=if b then 1 else 0
mutual
def sameP:V→V→Bool
 |.mk k b n t x l,.mk k2 b2 n2 t2 x2 l2=>decide (k=k2)&&(decide (b=b2)&&(decide (n=n2)&&(decide (t.data.toList=t2.data.toList)&&(decide (x.data.toList=x2.data.toList)&&sameL l l2))))
def sameL:List V→List V→Bool
 |[],[]=>true
 |[],_::_=>false
 |_::_,[]=>false
 |v::l,u::m=>sameP v u&&sameL l m
end
mutual
theorem sameP_iff:∀v u:V,sameP v u=true↔v=u
 |.mk k b n t x l,.mk k2 b2 n2 t2 x2 l2=>by
  rw[sameP]
  simp only[Bool.and_eq_true,decide_eq_true_eq,sameL_iff l l2,V.mk.injEq]
  constructor
  ·rintro⟨h1,h2,h3,h4,h5,h6⟩;exact⟨h1,h2,h3,ba_ext h4,ba_ext h5,h6⟩
  ·rintro⟨h1,h2,h3,h4,h5,h6⟩;exact⟨h1,h2,h3,by rw[h4],by rw[h5],h6⟩
theorem sameL_iff:∀l m:List V,sameL l m=true↔l=m
 |[],[]=>by rw[sameL];simp
 |[],_::_=>by rw[sameL];simp
 |_::_,[]=>by rw[sameL];simp
 |v::l,u::m=>by rw[sameL,Bool.and_eq_true,sameP_iff v u,sameL_iff l m];simp
end
def kindV:V→Int|.mk k _ _ _ _ _=>k
theorem sameP_sym(v u:V):sameP u v=sameP v u:=by rw[Bool.eq_iff_iff,sameP_iff,sameP_iff];exact⟨Eq.symm,Eq.symm⟩
theorem sameP_self(v:V):sameP v v=true:=(sameP_iff v v).2 rfl
open Go.ChangeShapes Go.WideShapes Go.ChangeAt Go.RowKit kit dec
def c6(k:Int)(b:Bool)(n:Int)(t x:ByteArray)(s:Value):Array Value:=#[.int .i64 k,.bool b,.int .i64 n,.string t,.string x,s]
structure B2(w W:World)(c d:Array Value):Prop where
 below:Below w.heap.size w W
 b0:Blk W w.heap.size c 38
 b1:Blk W (w.heap.size+1) d 38
theorem B2.made(w:World)(c d:Array Value):B2 w ((w.alloc (.cells c 38)).alloc (.cells d 38)) c d:=by
 refine⟨(((Keep.refl [] w).alloc _).alloc _).below,(Blk.new _ _ _).alloc _,?_⟩
 have:=Blk.new (w.alloc (.cells c 38)) d 38
 rwa [World.size_alloc]at this
theorem B2.on{w W W':World}{c d:Array Value}(h:B2 w W c d)(hb:Below W.heap.size W W'):B2 w W' c d:=⟨h.below.trans (hb.mono h.below.size),h.b0.keep (Keep.ofBelow hb) (by simp),h.b1.keep (Keep.ofBelow hb) (by simp)⟩
open Go.ChangeShapes Go.WideShapes Go.ChangeAt Go.RowKit kit dec
theorem Row6.six{w:World}{b o:Nat}{k:Int}{bo:Bool}{n:Int}{t x:ByteArray}{s:Value}(h:Row6 w b o k bo n t x s):
 w.cell? ⟨b,o,none⟩=some (.int .i64 k)∧w.cell? ⟨b,o+1,none⟩=some (.bool bo)∧w.cell? ⟨b,o+2,none⟩=some (.int .i64 n)∧w.cell? ⟨b,o+3,none⟩=some (.string t)∧w.cell? ⟨b,o+4,none⟩=some (.string x)∧w.cell? ⟨b,o+5,none⟩=some s:=
 ⟨h.c0,h.c1,h.c2,h.c3,h.c4,h.c5⟩
theorem LA.form6{w:World}{N:Nat}{s:Value}{l:List V}(h:LA w N s l):∃ao cap,s=.slice ao l.length cap:=by
 cases h with
 |mk ao cap l hl h=>exact⟨ao,cap,rfl⟩
open Go.ChangeShapes Go.WideShapes Go.ChangeAt Go.RowKit kit dec
theorem sameL_no{l m:List V}(h:l≠m):sameL l m=false:=by
 apply Bool.eq_false_iff.2
 intro e
 exact h ((sameL_iff l m).1 e)
theorem sameP_no{l m:V}(h:l≠m):sameP l m=false:=by
 apply Bool.eq_false_iff.2
 intro e
 exact h ((sameP_iff l m).1 e)
theorem sameP_list(k:Int)(b:Bool)(n:Int)(t x:ByteArray)(l m:List V):sameP (.mk k b n t x l) (.mk k b n t x m)=sameL l m:=by
 rw[Bool.eq_iff_iff,sameP_iff,sameL_iff]
 constructor
 ·intro h;injection h
 ·rintro rfl;rfl
theorem LA.form{w:World}{N:Nat}{s:Value}{l:List V}(h:LA w N s l):∃ao cap,s=.slice ao l.length cap:=by
 cases h with
 |mk ao cap l hl h=>exact⟨ao,cap,rfl⟩
def Pre(l m:List V)(k:Nat):Prop:=∀j (h1:j<l.length) (h2:j<m.length),j<k→l[j]=m[j]
theorem Pre.end{l m:List V}(h:Pre l m l.length)(hl:l.length=m.length):sameL l m=true:=by
 rw[sameL_iff]
 exact List.ext_getElem hl fun j h1 h2=>h j h1 h2 h1
theorem Pre.step{l m:List V}{k:Nat}(h:Pre l m k)(h1:k<l.length)(h2:k<m.length){v u:V}(hv:l[k]=v)(hu:m[k]=u):(sameP v u=false→sameL l m=false)∧(sameP v u=true→Pre l m (k+1)):=by
 constructor
 ·intro e
  apply sameL_no
  rintro rfl
  rw[hv]at hu
  subst hu
  rw[sameP_self]at e
  cases e
 ·intro e j j1 j2 hj
  rcases Nat.lt_or_ge j k with h3|h3
  ·exact h j j1 j2 h3
  ·obtain rfl:j=k:=by omega
   rw[hv,hu]
   exact(sameP_iff v u).1 e
def SmeX(N m:Nat):Prop:=∀(w:World) (k:Int) (b:Bool) (n:Int) (t x:ByteArray) (s:Value) (l:List V) (k2:Int) (bb:Bool) (n2:Int) (t2 x2:ByteArray) (s2:Value) (l2:List V),SizeOf.sizeOf l<m→LA w N s l→LA w N s2 l2 →
 Calls Tryz.prog 77 #[agg6 k b n t x s,agg6 k2 bb n2 t2 x2 s2] w fun e w'=>e=.returned (.bool (sameP (.mk k b n t x l) (.mk k2 bb n2 t2 x2 l2)))∧Below w.heap.size w w'
theorem equalFuncX(N m:Nat)(hN:N≤9223372036854775807)(hs:SmeX N m)(w:World)(s s2:Value)(l l2:List V)(hm:SizeOf.sizeOf l≤m)(ha:LA w N s l)(ha2:LA w N s2 l2):
 Calls Tryz.prog 115 #[s,s2,.func (.func 77) #[] #[]] w fun e w'=>e=.returned (.bool (sameL l l2))∧Below w.heap.size w w':=by
 cases ha with
 |mk ao cap l hl h=>
 cases ha2 with
 | mk ao2 cap2 l2 hl2 h2 =>
  replace h:=Hd h
  replace h2:=Hd h2
  replace hs:=Hd hs
  by_cases hne:l.length=l2.length
  ·obtain⟨L,hL⟩:∃L,l.length=L:=⟨_,rfl⟩
   have hL2:l2.length=L:=by omega
   rw[hL,hL2]
   have hLi:(L:Int)≤9223372036854775807:=by omega
   go_enter Tryz.func115,Tryz.ntmps115
   go_wp2
   go_loopw [17] (fun v wr=>∃k:Nat,k≤L∧v=.int .i64 k∧Hid (Below w.heap.size w wr)∧Hid (Pre l l2 k)) (fun v _=>L-(intOf v).toNat)
   case atStart=>exact⟨0,by omega,rfl,Below.refl _ _,fun j _ _ h=>by omega⟩
   case round=>
    obtain⟨k,hk,rfl,hb,hpre⟩:=hrel
    by_cases hlt:k<L
    ·have hki:(k:Int)<(L:Int):=by omega
     have hel:=(h.out k (by omega)).stay hb.out
     have hel2:=(h2.out k (by omega)).stay hb.out
     rw[Nat.mul_comm 6 k]at hel hel2
     have hmem:SizeOf.sizeOf (l[k]'(by omega))<SizeOf.sizeOf l:=List.sizeOf_lt_of_mem (List.getElem_mem _)
     obtain⟨v,hv⟩:∃v,l[k]'(by omega)=v:=⟨_,rfl⟩
     obtain⟨v2,hv2⟩:∃v,l2[k]'(by omega)=v:=⟨_,rfl⟩
     have hps:=Pre.step hpre.out (by omega) (by omega) hv hv2
     rw[hv]at hel hmem
     rw[hv2]at hel2
     clear hv hv2 hpre
     cases hel with
     |mk b off o k1 bo n t x l1 s hr hk1 hn ht hx hsl=>
     cases hel2 with
     | mk b2 off2 o2 k12 bo2 n2 t2 x2 l12 s2 hr2 hk12 hn2 ht2 hx2 hsl2 =>
      obtain⟨aoE,capE,rfl⟩:=LA.form hsl
      obtain⟨aoF,capF,rfl⟩:=LA.form hsl2
      have hm1:SizeOf.sizeOf l1<m:=by simp at hmem;omega
      have x0:=hr.c0
      have x1:=hr.c1
      have x2c:=hr.c2
      have x3:=hr.c3
      have x4:=hr.c4
      have x5:=hr.c5
      have y0:=hr2.c0
      have y1:=hr2.c1
      have y2:=hr2.c2
      have y3:=hr2.c3
      have y4:=hr2.c4
      have y5:=hr2.c5
      have hb1:Below wr.heap.size wr (wr.alloc (.cells #[.int .i64 k1,.bool bo,.int .i64 n,.string t,.string x,.slice aoE l1.length capE] 38)):=(Below.refl _ _).alloc (Nat.le_refl _) _
      have hr2':=hr2.below hb1
      have y0':=hr2'.c0
      have y1':=hr2'.c1
      have y2':=hr2'.c2
      have y3':=hr2'.c3
      have y4':=hr2'.c4
      have y5':=hr2'.c5
      have hbb:Below wr.heap.size wr ((wr.alloc (.cells #[.int .i64 k1,.bool bo,.int .i64 n,.string t,.string x,.slice aoE l1.length capE] 38)).alloc (.cells #[.int .i64 k12,.bool bo2,.int .i64 n2,.string t2,.string x2,.slice aoF l12.length capF] 38)):=hb1.alloc hb1.size _
      have hcall:=hs.out _ k1 bo n t x _ l1 k12 bo2 n2 t2 x2 _ l12 hm1 (hsl.stay hbb) (hsl2.stay hbb)
      unfold agg6 at hcall
      generalize sameP (.mk k1 bo n t x l1) (.mk k12 bo2 n2 t2 x2 l12)=c at hcall hps
      replace hcall:=Hd hcall
      replace hps:=Hd hps
      clear hr hr2 hr2' hsl hsl2 hmem
      go_wp2_with fail
      refine hcall.out.mono ?_
      rintro e w2 ⟨rfl,hb2⟩
      have hb3:=Hd (hb.out.trans ((hbb.trans (hb2.mono hbb.size)).mono hb.out.size))
      clear hb2 hcall hbb hb1
      cases c
      ·go_wp2
       go_ret
       exact⟨ret_bool (hps.out.1 (by simp)).symm,hb3.out⟩
      ·go_wp2
       go_roundw
       case rel=>exact⟨k+1,by omega,by go_num,hb3,hps.out.2 (by simp)⟩
       case measure=>simp[intOf];omega
    ·have hki:¬(k:Int)<(L:Int):=by omega
     obtain rfl:k=L:=by omega
     go_wp2
     go_ret
     exact⟨ret_bool ((hL ▸ hpre.out:Pre l l2 l.length).end hne).symm,hb.out⟩
  ·have hnei:((l.length:Int) != (l2.length:Int))=true:=bne_iff_ne.2 (by omega)
   go_enter Tryz.func115,Tryz.ntmps115
   go_wp2
   go_ret
   exact⟨ret_bool (sameL_no (fun e=>hne (by rw[e]))).symm,Below.refl _ _⟩
theorem same_allX(N:Nat)(hN:N≤9223372036854775807):∀m,SmeX N m:=by
 intro m
 induction m with
 |zero=>intro w k b n t x s l k2 bb n2 t2 x2 s2 l2 hm;omega
 | succ m ih =>
  intro w k b n t x s l k2 bb n2 t2 x2 s2 l2 hm ha ha2
  have h2:=B2.made w (c6 k b n t x s) (c6 k2 bb n2 t2 x2 s2)
  have hcall:=equalFuncX N m hN ih _ s s2 l l2 (by omega) (ha.stay h2.below) (ha2.stay h2.below)
  unfold c6 at h2 hcall
  unfold agg6
  have hbe:=Hd h2.below
  clear h2 ha ha2 ih
  replace hcall:=Hd hcall
  by_cases e1:k=k2
  case neg=>
   have q1:(k==k2)=false:=beq_eq_false_iff_ne.2 e1
   have hno:=Hd (sameP_no (fun h=>by injection h;exact e1 ‹_›):sameP (.mk k b n t x l) (.mk k2 bb n2 t2 x2 l2)=false)
   go_enter Tryz.func77,Tryz.ntmps77
   go_wp2;go_ret;exact⟨ret_bool hno.out.symm,hbe.out⟩
  subst e1
  by_cases e2:b=bb
  case neg=>
   have q2:(b==bb)=false:=beq_eq_false_iff_ne.2 e2
   have hno:=Hd (sameP_no (fun h=>by injection h;exact e2 ‹_›):sameP (.mk k b n t x l) (.mk k bb n2 t2 x2 l2)=false)
   go_enter Tryz.func77,Tryz.ntmps77
   go_wp2;go_ret;exact⟨ret_bool hno.out.symm,hbe.out⟩
  subst e2
  by_cases e3:n=n2
  case neg=>
   have q3:(n==n2)=false:=beq_eq_false_iff_ne.2 e3
   have hno:=Hd (sameP_no (fun h=>by injection h;exact e3 ‹_›):sameP (.mk k b n t x l) (.mk k b n2 t2 x2 l2)=false)
   go_enter Tryz.func77,Tryz.ntmps77
   go_wp2;go_ret;exact⟨ret_bool hno.out.symm,hbe.out⟩
  subst e3
  cases e4:(t.toList==t2.toList)
  case false=>
   have hno:=Hd (sameP_no (fun h=>by injection h with _ _ _ h4;rw[h4]at e4;simp at e4):sameP (.mk k b n t x l) (.mk k b n t2 x2 l2)=false)
   go_enter Tryz.func77,Tryz.ntmps77
   go_wp2;go_ret;exact⟨ret_bool hno.out.symm,hbe.out⟩
  cases e5:(x.toList==x2.toList)
  case false=>
   have hno:=Hd (sameP_no (fun h=>by injection h with _ _ _ _ h5;rw[h5]at e5;simp at e5):sameP (.mk k b n t x l) (.mk k b n t2 x2 l2)=false)
   go_enter Tryz.func77,Tryz.ntmps77
   go_wp2;go_ret;exact⟨ret_bool hno.out.symm,hbe.out⟩
  go_enter Tryz.func77,Tryz.ntmps77
  go_wp2_with (go_at_call 115;refine hcall.out.mono ?_;rintro e w2 ⟨rfl,hb2⟩)
  go_ret
  have ht:=toList_inj (beq_iff_eq.1 e4)
  have hx:=toList_inj (beq_iff_eq.1 e5)
  exact⟨ret_bool (by rw[ht,hx,sameP_list]),hbe.out.trans (hb2.mono hbe.out.size)⟩
theorem same_call(N:Nat)(hN:N≤9223372036854775807)(w:World)(k:Int)(b:Bool)(n:Int)(t x:ByteArray)(s:Value)(l:List V)(k2:Int)(bb:Bool)(n2:Int)(t2 x2:ByteArray)(s2:Value)(l2:List V)(ha:LA w N s l)(ha2:LA w N s2 l2):
 Calls Tryz.prog 77 #[agg6 k b n t x s,agg6 k2 bb n2 t2 x2 s2] w fun e w'=>e=.returned (.bool (sameP (.mk k b n t x l) (.mk k2 bb n2 t2 x2 l2)))∧Below w.heap.size w w':=
 same_allX N hN (SizeOf.sizeOf l+1) w k b n t x s l k2 bb n2 t2 x2 s2 l2 (Nat.lt_succ_self _) ha ha2
end Go.Proofs.YtcaeipdgbaligaaGreatDoor.val
