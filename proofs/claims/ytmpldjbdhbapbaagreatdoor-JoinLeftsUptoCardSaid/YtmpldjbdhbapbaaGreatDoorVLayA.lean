/- Texts VLay, VEnc, one behind the other. -/
import Derived.Test.YtmpldjbdhbapbaaGreatDoorValBA
set_option linter.unusedSimpArgs false
set_option linter.unusedVariables false
set_option maxRecDepth 100000
set_option maxHeartbeats 4000000
namespace Go.Proofs.YtmpldjbdhbapbaaGreatDoor.val
open Go.ChangeShapes Go.WideShapes Go.ChangeAt Go.RowKit kit dec
theorem strCells_b(s:ByteArray):Lib.strCells s=bytesV s.data.toList:=by
 first|rfl|(simp[Lib.strCells,bytesV];done)|(unfold Lib.strCells bytesV;simp)
theorem text_call(W0:World)(l:List UInt8)(v:Value)(t:ByteArray)(w:World)(h:BW W0 W0.heap.size v l w)(hl:l.length≤10000000)(ht:t.size≤10000000):
 Calls Tryz.prog 103 #[v,.string t] w fun e w'=>∃v',e=.returned v'∧BW W0 W0.heap.size v' (l++txL t) w'∧Gr w w':=by
 obtain⟨i0,hi,hz0,hz1,hz2⟩:=info_parts Tryz.infoB
 replace hi:=Hd hi
 replace hz0:=Hd hz0
 replace hz1:=Hd hz1
 replace hz2:=Hd hz2
 have hbig:=big_call W0 l v t.size 4 (by omega) (by omega) (by omega) w h (by omega)
 have hti:(t.size:Int)≤10000000:=by omega
 replace hbig:=Hd hbig
 clear h
 go_enter Tryz.func103,Tryz.ntmps103
 go_wp2_with fail
 refine(hbig.out).mono ?_
 rintro e w1 ⟨v1,rfl,hb1,hg1⟩
 have hown:=hb1.own
 have hB:=hb1.below.size
 have hlen:(l++bigL t.size 4).length≤10000004:=by rw[List.length_append,bigL_len];omega
 generalize hL:l++bigL t.size 4=L at *
 replace hL:=Hd hL
 clear hbig
 replace hg1:=Hd hg1
 replace hb1:=Hd hb1
 go_wp2_with (at_builtin;refine Lib.wpList_append_own_string _ rfl _ _ 108 9 rfl W0.heap.size 5 i0 Tryz.underlying108 Tryz.underlying9 hi.out hz0.out hz1.out hz2.out _ _ _ rfl hown t rfl ?c3 ?c4 ?c5 ?_)
 case c3=>unfold maxLen;omega
 case c4=>omega
 case c5=>omega
 intro v' w2 hown' hgrow _
 rw[strCells_b]at hown'
 have hb2:=Hd (hb1.out.grown0 hB (m:=t.data.toList) hown' hgrow)
 have hg2:=Hd (hg1.out.trans (Gr.grown hown hgrow))
 clear hown hown' hgrow hb1 hg1
 go_wp2
 go_ret
 exact⟨_,rfl,by have:=hb2.out;rw[←hL.out,List.append_assoc]at this;exact this,hg2.out⟩
def LayX(N m:Nat):Prop:=∀(W0 w:World) (bs:List UInt8) (v:Value) (k:Int) (b:Bool) (n:Int) (hk:In64 k) (hn:In64 n) (t x:ByteArray) (s:Value) (l:List V),SizeOf.sizeOf l<m→LA W0 N s l→BW W0 W0.heap.size v bs w→bs.length+(encV (.mk k b n t x l)).length≤10000000 →
 Calls Tryz.prog 74 #[v,agg6 k b n t x s] w fun e w'=>∃v',e=.returned v'∧BW W0 W0.heap.size v' (bs++encV (.mk k b n t x l)) w'∧Gr w w'
theorem encV_mk(k:Int)(b:Bool)(n:Int)(t x:ByteArray)(l:List V):encV (.mk k b n t x l)=lo8 (u64 k) ::
 (if k=1 then[if b then 1 else 0] else if k=2∨k=6∨k=7 then bigL (u64 n) 8 else if k=3∨k=4∨k=8∨k=9 then txL t
  else if k=10 then txL t++txL x else if k=5 then bigL l.length 4++encL l else[]):=by rw[encV]
theorem lo8_u64(k:Int):k % 256=((lo8 (u64 k)).toNat:Int):=by
 unfold lo8 u64
 simp
 omega
theorem u64_wrap(n:Int):IntKind.u64.wrap n=((u64 n:Nat):Int):=by
 unfold u64
 rw[IntKind.wrap_u64]
 omega
theorem encL_take(l:List V)(k:Nat)(h:k<l.length):encL (l.take (k+1))=encL (l.take k)++encV l[k]:=by
 induction l generalizing k with
 |nil=>simp at h
 | cons v r ih =>
  cases k with
  |zero=>simp[encL]
  |succ k=>
   rw[List.take_succ_cons,List.take_succ_cons,encL,encL,ih k (by simpa using h)]
   simp
theorem encL_take_le(l:List V)(k:Nat):(encL (l.take k)).length≤(encL l).length:=by
 induction l generalizing k with
 |nil=>simp[encL]
 |cons v r ih=>
  cases k with
  |zero=>simp[encL]
  |succ k=>rw[List.take_succ_cons,encL,encL,List.length_append,List.length_append];have:=ih k;omega
theorem LA.elems{w:World}{N:Nat}{s:Value}{l:List V}(h:LA w N s l):∀ao n cap,s=.slice ao n cap→l.length≤N∧∀j (hj:j<l.length),EA w N ao (6 * j) l[j]:=by
 cases h with
 |mk ao cap l hl h=>
  intro ao' n' cap' e
  injection e with e1 e2 e3
  subst e1
  exact⟨hl,h⟩
theorem Row6.into{w w':World}{b o:Nat}{k:Int}{bo:Bool}{n:Int}{t x:ByteArray}{s:Value}(h:Row6 w b o k bo n t x s)(hb:Below w.heap.size w w'):Row6 w' b o k bo n t x s:=h.below hb
theorem EA.into{w w':World}{N:Nat}{ao:Option Addr}{o:Nat}{v:V}(h:EA w N ao o v)(hb:Below w.heap.size w w'):EA w' N ao o v:=h.stay hb
theorem below_drew(w:World):Below w.heap.size w w.drew:=below_drewN (Below.refl _ _) 1
theorem Blk.two{w:World}{b:Nat}{c d:Value}{t:TypeId}(h:Blk w b #[c,d] t):w.cell? ⟨b,0,none⟩=some c∧w.cell? ⟨b,1,none⟩=some d:=⟨h.cell 0 rfl,h.cell 1 rfl⟩
theorem lay_all(N:Nat)(hN:N≤9223372036854775807):∀m,LayX N m:=by
 intro m
 induction m with
 |zero=>intro W0 w bs v k b n hk hn t x s l hm;omega
 | succ m ih =>
  intro W0 w bs v k b n hk hn t x s l hm ha hbw hlen
  obtain⟨i0,hi,hz0,hz1,hz2⟩:=info_parts Tryz.infoB
  replace hi:=Hd hi
  replace hz0:=Hd hz0
  replace hz1:=Hd hz1
  replace hz2:=Hd hz2
  have hB:=hbw.below.size
  have hbox:=hbw.alloc hB (.cells #[.int .i64 k,.bool b,.int .i64 n,.string t,.string x,s] 34)
  have hblk:=Blk.new w #[.int .i64 k,.bool b,.int .i64 n,.string t,.string x,s] 34
  have hgr:Gr w (w.alloc (.cells #[.int .i64 k,.bool b,.int .i64 n,.string t,.string x,s] 34)):=Gr.below ((Below.refl _ _).alloc (Nat.le_refl _) _)
  have hown:=hbox.own
  have hB1:=hbox.below.size
  have hkb:=Hd (lo8_u64 k)
  have hbl:bs.length+1≤10000000:=by
   have h1:=hlen
   rw[encV_mk,List.length_cons]at h1
   omega
  obtain⟨ao,cap,rfl⟩:=LA.form6 ha
  obtain⟨E,hE0⟩:∃E,bs++encV (.mk k b n t x l)=E:=⟨_,rfl⟩
  rw[hE0]
  replace hE0:=Hd hE0
  unfold agg6
  go_enter Tryz.func74,Tryz.ntmps74
  go_upto_region 1 with fail
  generalize w.alloc (.cells #[.int .i64 k,.bool b,.int .i64 n,.string t,.string x,.slice ao l.length cap] 34)=w1 at *
  have x0:=hblk.cell 0 rfl
  have x1:=hblk.cell 1 rfl
  have x2c:=hblk.cell 2 rfl
  have x3:=hblk.cell 3 rfl
  have x4:=hblk.cell 4 rfl
  have x5:=hblk.cell 5 rfl
  go_wp2_with (at_builtin;refine wpList_append_own _ rfl _ _ 108 rfl W0.heap.size 5 i0 (.int .u8 0) 1 1 Tryz.underlying108 hi.out hz0.out hz1.out hz2.out rfl (by decide) _ bs.length (bytesV bs) rfl (hown.alloc _) _ 1 _ [.int .u8 (k % 256)] rfl rfl ?c1 ?c2 ?c3 ?c4 ?c5 ?c6)
  case c1=>exact news_b _ _ _
  case c2=>simp[Value.oneCell']
  case c3=>simp only[maxLen];omega
  case c4=>omega
  case c5=>simp;omega
  case c6 =>
   intro v2 w2 hown' hgrow _
   rw[hkb.out]at hown'
   have hbw2:=Hd (hbox.grown hB1 (.cells #[.int .u8 (k % 256)] 5) (m:=[lo8 (u64 k)]) hown' hgrow)
   have hg12:=(Gr.below ((Below.refl _ _).alloc (Nat.le_refl _) (.cells #[.int .u8 (k % 256)] 5))).trans (Gr.grown (hown.alloc _) hgrow)
   have hg2:=Hd (hgr.trans hg12)
   have hblk2:=Hd (hg12.blk hblk (by decide))
   clear hown' hgrow hown hbox hblk hgr hg12 hkb x0 x1 x2c x3 x4 x5
   have x0:=hblk2.out.cell 0 rfl
   have x1:=hblk2.out.cell 1 rfl
   have x2c:=hblk2.out.cell 2 rfl
   have x3:=hblk2.out.cell 3 rfl
   have x4:=hblk2.out.cell 4 rfl
   have x5:=hblk2.out.cell 5 rfl
   rcases kinds k with rfl|rfl|rfl|rfl|rfl|rfl|rfl|rfl|rfl|rfl|rfl|⟨h0,h1,h2,h3,h4,h5,h6,h7,h8,h9,h10⟩
   ·have hE:Hid (bs++[lo8 (u64 0)]=E):=Hd (by rw[←hE0.out,encV_mk];simp)
    clear hE0
    have hpt:=Hd (fun W=>part_any (0) b n t x (.slice ao l.length cap) W)
    unfold partV agg6 at hpt
    simp only[if_true,Int.reduceEq,reduceCtorEq,if_false,or_true,true_or,or_false,or_self]at hpt
    go_wp2_with fail
    refine(hpt.out _).mono ?_
    rintro e w3 ⟨rfl,hb3⟩
    clear hpt x0 x1 x2c x3 x4 x5
    have hbw3:=hbw2.out.on hbw2.out.below.size hb3
    have hg3:=Hd (hg2.out.trans (Gr.below hb3))
    have hblk3:=(Gr.below hb3).blk hblk2.out (by decide)
    clear hb3 hbw2 hg2 hblk2
    have tb0:=tb_0_0
    have tb1:=tb_0_1
    have tb2:=tb_0_2
    have tb3:=tb_0_3
    have tb4:=tb_0_4
    have tb5:=tb_0_5
    have tb6:=tb_0_6
    have tb7:=tb_0_7
    have tb8:=tb_0_8
    replace hbw3:=Hd hbw3
    go_wp2
    go_ret
    exact⟨_,rfl,by have:=hbw3.out;rw[←hE.out];exact this,hg3.out⟩
   ·
    have hpt:=Hd (fun W=>part_any (1) b n t x (.slice ao l.length cap) W)
    unfold partV agg6 at hpt
    simp only[if_true,Int.reduceEq,reduceCtorEq,if_false,or_true,true_or,or_false,or_self]at hpt
    go_wp2_with fail
    refine(hpt.out _).mono ?_
    rintro e w3 ⟨rfl,hb3⟩
    clear hpt x0 x1 x2c x3 x4 x5
    have hbw3:=hbw2.out.on hbw2.out.below.size hb3
    have hg3:=Hd (hg2.out.trans (Gr.below hb3))
    have hblk3:=(Gr.below hb3).blk hblk2.out (by decide)
    clear hb3 hbw2 hg2 hblk2
    have tb0:=tb_1_0
    have tb1:=tb_1_1
    have tb2:=tb_1_2
    have tb3:=tb_1_3
    have tb4:=tb_1_4
    have tb5:=tb_1_5
    have tb6:=tb_1_6
    have tb7:=tb_1_7
    have tb8:=tb_1_8
    cases b
    ·have hE:Hid (bs++[lo8 (u64 1)]++[(0:UInt8)]=E):=Hd (by rw[←hE0.out,encV_mk];simp)
     clear hE0
     have hown3:=hbw3.own
     have hB3:=hbw3.below.size
     have hlen3:(bs++[lo8 (u64 1)]).length≤10000000:=by rw[List.length_append];simp;omega
     generalize hL:bs++[lo8 (u64 1)]=L at *
     clear hL
     go_wp2_with (first|(go_at_call 101;refine(truth_any _ _).mono ?_;rintro e w9 ⟨rfl,hw9⟩;rw[hw9];clear hw9)|(at_builtin;refine wpList_append_own _ rfl _ _ 108 rfl W0.heap.size 5 i0 (.int .u8 0) 1 1 Tryz.underlying108 hi.out hz0.out hz1.out hz2.out rfl (by decide) _ L.length (bytesV L) rfl (hown3.alloc _) _ 1 _ [.int .u8 (0)] rfl rfl ?d1 ?d2 ?d3 ?d4 ?d5 ?d6))
     case d1=>exact news_b _ _ _
     case d2=>simp[Value.oneCell']
     case d3=>simp only[maxLen];omega
     case d4=>omega
     case d5=>simp;omega
     case d6=>
      intro v4 w4 hown' hgrow _
      have hbw4:=Hd (hbw3.grown hB3 (.cells #[.int .u8 (0)] 5) (m:=[(0:UInt8)]) hown' hgrow)
      have hg4:=Hd (hg3.out.trans ((Gr.below ((Below.refl _ _).alloc (Nat.le_refl _) (.cells #[.int .u8 (0)] 5))).trans (Gr.grown (hown3.alloc _) hgrow)))
      clear hown' hgrow hown3 hbw3 hg3
      go_wp2
      go_ret
      exact⟨_,rfl,by have:=hbw4.out;rw[hE.out]at this;exact this,hg4.out⟩
    ·have hE:Hid (bs++[lo8 (u64 1)]++[(1:UInt8)]=E):=Hd (by rw[←hE0.out,encV_mk];simp)
     clear hE0
     have hown3:=hbw3.own
     have hB3:=hbw3.below.size
     have hlen3:(bs++[lo8 (u64 1)]).length≤10000000:=by rw[List.length_append];simp;omega
     generalize hL:bs++[lo8 (u64 1)]=L at *
     clear hL
     go_wp2_with (first|(go_at_call 101;refine(truth_any _ _).mono ?_;rintro e w9 ⟨rfl,hw9⟩;rw[hw9];clear hw9)|(at_builtin;refine wpList_append_own _ rfl _ _ 108 rfl W0.heap.size 5 i0 (.int .u8 0) 1 1 Tryz.underlying108 hi.out hz0.out hz1.out hz2.out rfl (by decide) _ L.length (bytesV L) rfl (hown3.alloc _) _ 1 _ [.int .u8 (1)] rfl rfl ?f1 ?f2 ?f3 ?f4 ?f5 ?f6))
     case f1=>exact news_b _ _ _
     case f2=>simp[Value.oneCell']
     case f3=>simp only[maxLen];omega
     case f4=>omega
     case f5=>simp;omega
     case f6=>
      intro v4 w4 hown' hgrow _
      have hbw4:=Hd (hbw3.grown hB3 (.cells #[.int .u8 (1)] 5) (m:=[(1:UInt8)]) hown' hgrow)
      have hg4:=Hd (hg3.out.trans ((Gr.below ((Below.refl _ _).alloc (Nat.le_refl _) (.cells #[.int .u8 (1)] 5))).trans (Gr.grown (hown3.alloc _) hgrow)))
      clear hown' hgrow hown3 hbw3 hg3
      go_wp2
      go_ret
      exact⟨_,rfl,by have:=hbw4.out;rw[hE.out]at this;exact this,hg4.out⟩
   ·have hE:Hid (bs++(lo8 (u64 2)::bigL (u64 n) 8)=E):=Hd (by rw[←hE0.out,encV_mk];simp)
    clear hE0
    have hpt:=Hd (fun W=>part_any (2) b n t x (.slice ao l.length cap) W)
    unfold partV agg6 at hpt
    simp only[if_true,Int.reduceEq,reduceCtorEq,if_false,or_true,true_or,or_false,or_self]at hpt
    go_wp2_with fail
    refine(hpt.out _).mono ?_
    rintro e w3 ⟨rfl,hb3⟩
    clear hpt x0 x1 x2c x3 x4 x5
    have hbw3:=hbw2.out.on hbw2.out.below.size hb3
    have hg3:=Hd (hg2.out.trans (Gr.below hb3))
    have hblk3:=(Gr.below hb3).blk hblk2.out (by decide)
    clear hb3 hbw2 hg2 hblk2
    have tb0:=tb_2_0
    have tb1:=tb_2_1
    have tb2:=tb_2_2
    have tb3:=tb_2_3
    have tb4:=tb_2_4
    have tb5:=tb_2_5
    have tb6:=tb_2_6
    have tb7:=tb_2_7
    have tb8:=tb_2_8
    have hbig:=Hd (big_call W0 _ v2 (u64 n) 8 (by omega) (by omega) (by unfold u64;omega) w3 hbw3 (by rw[List.length_append];simp;omega))
    clear hbw3 hblk3
    have hu:=Hd (u64_wrap n)
    go_wp2_with fail
    rw[hu.out]
    refine(hbig.out).mono ?_
    rintro e w4 ⟨v4,rfl,hbw4,hg4⟩
    have hg5:=Hd (hg3.out.trans hg4)
    replace hbw4:=Hd hbw4
    clear hg3 hg4
    go_wp2
    go_ret
    exact⟨_,rfl,by have:=hbw4.out;rw[←hE.out];simpa[List.append_assoc]using this,hg5.out⟩
   ·have hE:Hid (bs++(lo8 (u64 3)::txL t)=E):=Hd (by rw[←hE0.out,encV_mk];simp)
    have htl:t.size≤10000000:=by
     have:=hlen
     rw[encV_mk]at this
     simp[txL,bigL_len]at this
     omega
    clear hE0
    have hpt:=Hd (fun W=>part_any (3) b n t x (.slice ao l.length cap) W)
    unfold partV agg6 at hpt
    simp only[if_true,Int.reduceEq,reduceCtorEq,if_false,or_true,true_or,or_false,or_self]at hpt
    go_wp2_with fail
    refine(hpt.out _).mono ?_
    rintro e w3 ⟨rfl,hb3⟩
    clear hpt x0 x1 x2c x3 x4 x5
    have hbw3:=hbw2.out.on hbw2.out.below.size hb3
    have hg3:=Hd (hg2.out.trans (Gr.below hb3))
    have hblk3:=(Gr.below hb3).blk hblk2.out (by decide)
    clear hb3 hbw2 hg2 hblk2
    have tb0:=tb_3_0
    have tb1:=tb_3_1
    have tb2:=tb_3_2
    have tb3:=tb_3_3
    have tb4:=tb_3_4
    have tb5:=tb_3_5
    have tb6:=tb_3_6
    have tb7:=tb_3_7
    have tb8:=tb_3_8
    have htx:=Hd (text_call W0 _ v2 t w3 hbw3 (by rw[List.length_append];simp;omega) htl)
    clear hbw3 hblk3
    go_wp2_with fail
    refine(htx.out).mono ?_
    rintro e w4 ⟨v4,rfl,hbw4,hg4⟩
    have hg5:=Hd (hg3.out.trans hg4)
    replace hbw4:=Hd hbw4
    clear hg3 hg4
    go_wp2
    go_ret
    exact⟨_,rfl,by have:=hbw4.out;rw[←hE.out];simpa[List.append_assoc]using this,hg5.out⟩
   ·have hE:Hid (bs++(lo8 (u64 4)::txL t)=E):=Hd (by rw[←hE0.out,encV_mk];simp)
    have htl:t.size≤10000000:=by
     have:=hlen
     rw[encV_mk]at this
     simp[txL,bigL_len]at this
     omega
    clear hE0
    have hpt:=Hd (fun W=>part_any (4) b n t x (.slice ao l.length cap) W)
    unfold partV agg6 at hpt
    simp only[if_true,Int.reduceEq,reduceCtorEq,if_false,or_true,true_or,or_false,or_self]at hpt
    go_wp2_with fail
    refine(hpt.out _).mono ?_
    rintro e w3 ⟨rfl,hb3⟩
    clear hpt x0 x1 x2c x3 x4 x5
    have hbw3:=hbw2.out.on hbw2.out.below.size hb3
    have hg3:=Hd (hg2.out.trans (Gr.below hb3))
    have hblk3:=(Gr.below hb3).blk hblk2.out (by decide)
    clear hb3 hbw2 hg2 hblk2
    have tb0:=tb_4_0
    have tb1:=tb_4_1
    have tb2:=tb_4_2
    have tb3:=tb_4_3
    have tb4:=tb_4_4
    have tb5:=tb_4_5
    have tb6:=tb_4_6
    have tb7:=tb_4_7
    have tb8:=tb_4_8
    have htx:=Hd (text_call W0 _ v2 t w3 hbw3 (by rw[List.length_append];simp;omega) htl)
    clear hbw3 hblk3
    go_wp2_with fail
    refine(htx.out).mono ?_
    rintro e w4 ⟨v4,rfl,hbw4,hg4⟩
    have hg5:=Hd (hg3.out.trans hg4)
    replace hbw4:=Hd hbw4
    clear hg3 hg4
    go_wp2
    go_ret
    exact⟨_,rfl,by have:=hbw4.out;rw[←hE.out];simpa[List.append_assoc]using this,hg5.out⟩
   ·have hE:Hid (((bs++[lo8 (u64 5)])++bigL l.length 4)++encL l=E):=Hd (by rw[←hE0.out,encV_mk];simp)
    have htl:bs.length+1+4+(encL l).length≤10000000:=by
     have:=hlen
     rw[encV_mk]at this
     simp[bigL_len]at this
     omega
    clear hE0
    have hpt:=Hd (fun W=>part_any (5) b n t x (.slice ao l.length cap) W)
    unfold partV agg6 at hpt
    simp only[if_true,Int.reduceEq,reduceCtorEq,if_false,or_true,true_or,or_false,or_self]at hpt
    go_wp2_with fail
    refine(hpt.out _).mono ?_
    rintro e w3 ⟨rfl,hb3⟩
    clear hpt x0 x1 x2c x3 x4 x5
    have hbw3:=hbw2.out.on hbw2.out.below.size hb3
    have hg3:=Hd (hg2.out.trans (Gr.below hb3))
    have hblk3:=(Gr.below hb3).blk hblk2.out (by decide)
    clear hb3 hbw2 hg2 hblk2
    have tb0:=tb_5_0
    have tb1:=tb_5_1
    have tb2:=tb_5_2
    have tb3:=tb_5_3
    have tb4:=tb_5_4
    have tb5:=tb_5_5
    have tb6:=tb_5_6
    have tb7:=tb_5_7
    have tb8:=tb_5_8
    have hNl:l.length≤N:=(ha.elems _ _ _ rfl).1
    have hbig:=Hd (big_call W0 _ v2 l.length 4 (by omega) (by omega) (by omega) w3 hbw3 (by rw[List.length_append];simp;omega))
    clear hbw3 hblk3
    have hli:(l.length:Int)≤9223372036854775807:=by omega
    go_wp2_with fail
    refine(hbig.out).mono ?_
    rintro e w4 ⟨v4,rfl,hbw4,hg4⟩
    have hg5:=Hd (hg3.out.trans hg4)
    have hlenP:((bs++[lo8 (u64 5)])++bigL l.length 4).length≤bs.length+5:=by simp[bigL_len]
    generalize hP:(bs++[lo8 (u64 5)])++bigL l.length 4=P at *
    replace hP:=Hd hP
    clear hg3 hg4 hbig
    clear tb0 tb1 tb2 tb3 tb4 tb5 tb6 tb7 tb8
    have hel0:∀j (hj:j<l.length),EA W0 N ao (6 * j) l[j]:=(ha.elems _ _ _ rfl).2
    replace hel0:=Hd hel0
    replace hbw4:=Hd hbw4
    clear ha
    go_wp2
    go_loopw [0,77] (fun v0 v77 wr=>∃(k:Nat),v77=.int .i64 k∧k≤l.length∧Hid (BW W0 W0.heap.size v0 (P++encL (l.take k)) wr)∧Hid (Gr w wr)) (fun _ v77 _=>l.length-(intOf v77).toNat)
    case atStart=>exact⟨0,rfl,by omega,by simpa[encL]using hbw4,hg5⟩
    case round=>
     obtain⟨k,rfl,hk,hb,hg⟩:=hrel
     clear hbw4 hg5
     by_cases hlt:k<l.length
     ·have hki:(k:Int)<(l.length:Int):=by omega
      have hel:=(hel0.out k hlt).into hb.out.below
      rw[Nat.mul_comm 6 k]at hel
      have hst:=encL_take l k hlt
      have hlt2:=encL_take_le l (k+1)
      have hmem:SizeOf.sizeOf (l[k]'(by omega))<SizeOf.sizeOf l:=List.sizeOf_lt_of_mem (List.getElem_mem _)
      have hel2:=hel0.out k hlt
      rw[Nat.mul_comm 6 k]at hel2
      generalize l[k]'(by omega)=v at hel hel2 hmem hst
      cases hel2 with
      |mk b off o k1 bo n t x l1 s hr hk1 hn ht hx hsl=>
       obtain⟨aoE,capE,rfl⟩:=LA.form6 hsl
       have hm1:SizeOf.sizeOf l1<m:=by simp at hmem;omega
       have hr2:=hr.into hb.out.below
       obtain⟨z0,z1,z2,z3,z4,z5⟩:=hr2.six
       have hB5:=hb.out.below.size
       have hbx:=hb.out.alloc hB5 (.cells #[.int .i64 k1,.bool bo,.int .i64 n,.string t,.string x,.slice aoE l1.length capE] 34)
       rw[hst,List.length_append]at hlt2
       have hcall:=ih W0 _ _ u0 k1 bo n hk1 hn t x _ l1 hm1 hsl hbx (by rw[List.length_append];omega)
       have hg6:=Hd (hg.out.trans (Gr.below ((Below.refl _ _).alloc (Nat.le_refl _) (.cells #[.int .i64 k1,.bool bo,.int .i64 n,.string t,.string x,.slice aoE l1.length capE] 34))))
       unfold agg6 at hcall
       rw[List.append_assoc,←hst]at hcall
       replace hcall:=Hd hcall
       clear hel hr hr2 hsl hbx hb hg hst
       go_wp2_with fail
       refine hcall.out.mono ?_
       rintro e w6 ⟨v6,rfl,hbw6,hg7⟩
       have hg8:=Hd (hg6.out.trans hg7)
       replace hbw6:=Hd hbw6
       clear hg6 hg7 hcall z0 z1 z2 z3 z4 z5
       go_wp2
       go_roundw
       case rel=>exact⟨k+1,by go_num,by omega,hbw6,hg8⟩
       case measure=>simp[intOf];omega
     ·have hki:¬(k:Int)<(l.length:Int):=by omega
      obtain rfl:k=l.length:=by omega
      go_wp2
      go_ret
      exact⟨_,rfl,by have:=hb.out;rw[List.take_length,hE.out]at this;exact this,hg.out⟩
   ·have hE:Hid (bs++(lo8 (u64 6)::bigL (u64 n) 8)=E):=Hd (by rw[←hE0.out,encV_mk];simp)
    clear hE0
    have hpt:=Hd (fun W=>part_any (6) b n t x (.slice ao l.length cap) W)
    unfold partV agg6 at hpt
    simp only[if_true,Int.reduceEq,reduceCtorEq,if_false,or_true,true_or,or_false,or_self]at hpt
    go_wp2_with fail
    refine(hpt.out _).mono ?_
    rintro e w3 ⟨rfl,hb3⟩
    clear hpt x0 x1 x2c x3 x4 x5
    have hbw3:=hbw2.out.on hbw2.out.below.size hb3
    have hg3:=Hd (hg2.out.trans (Gr.below hb3))
    have hblk3:=(Gr.below hb3).blk hblk2.out (by decide)
    clear hb3 hbw2 hg2 hblk2
    have tb0:=tb_6_0
    have tb1:=tb_6_1
    have tb2:=tb_6_2
    have tb3:=tb_6_3
    have tb4:=tb_6_4
    have tb5:=tb_6_5
    have tb6:=tb_6_6
    have tb7:=tb_6_7
    have tb8:=tb_6_8
    have hbig:=Hd (big_call W0 _ v2 (u64 n) 8 (by omega) (by omega) (by unfold u64;omega) w3 hbw3 (by rw[List.length_append];simp;omega))
    clear hbw3 hblk3
    have hu:=Hd (u64_wrap n)
    go_wp2_with fail
    rw[hu.out]
    refine(hbig.out).mono ?_
    rintro e w4 ⟨v4,rfl,hbw4,hg4⟩
    have hg5:=Hd (hg3.out.trans hg4)
    replace hbw4:=Hd hbw4
    clear hg3 hg4
    go_wp2
    go_ret
    exact⟨_,rfl,by have:=hbw4.out;rw[←hE.out];simpa[List.append_assoc]using this,hg5.out⟩
   ·have hE:Hid (bs++(lo8 (u64 7)::bigL (u64 n) 8)=E):=Hd (by rw[←hE0.out,encV_mk];simp)
    clear hE0
    have hpt:=Hd (fun W=>part_any (7) b n t x (.slice ao l.length cap) W)
    unfold partV agg6 at hpt
    simp only[if_true,Int.reduceEq,reduceCtorEq,if_false,or_true,true_or,or_false,or_self]at hpt
    go_wp2_with fail
    refine(hpt.out _).mono ?_
    rintro e w3 ⟨rfl,hb3⟩
    clear hpt x0 x1 x2c x3 x4 x5
    have hbw3:=hbw2.out.on hbw2.out.below.size hb3
    have hg3:=Hd (hg2.out.trans (Gr.below hb3))
    have hblk3:=(Gr.below hb3).blk hblk2.out (by decide)
    clear hb3 hbw2 hg2 hblk2
    have tb0:=tb_6_0
    have tb1:=tb_6_1
    have tb2:=tb_6_2
    have tb3:=tb_6_3
    have tb4:=tb_6_4
    have tb5:=tb_6_5
    have tb6:=tb_6_6
    have tb7:=tb_6_7
    have tb8:=tb_6_8
    have hbig:=Hd (big_call W0 _ v2 (u64 n) 8 (by omega) (by omega) (by unfold u64;omega) w3 hbw3 (by rw[List.length_append];simp;omega))
    clear hbw3 hblk3
    have hu:=Hd (u64_wrap n)
    go_wp2_with fail
    rw[hu.out]
    refine(hbig.out).mono ?_
    rintro e w4 ⟨v4,rfl,hbw4,hg4⟩
    have hg5:=Hd (hg3.out.trans hg4)
    replace hbw4:=Hd hbw4
    clear hg3 hg4
    go_wp2
    go_ret
    exact⟨_,rfl,by have:=hbw4.out;rw[←hE.out];simpa[List.append_assoc]using this,hg5.out⟩
   ·have hE:Hid (bs++(lo8 (u64 8)::txL t)=E):=Hd (by rw[←hE0.out,encV_mk];simp)
    have htl:t.size≤10000000:=by
     have:=hlen
     rw[encV_mk]at this
     simp[txL,bigL_len]at this
     omega
    clear hE0
    have hpt:=Hd (fun W=>part_any (8) b n t x (.slice ao l.length cap) W)
    unfold partV agg6 at hpt
    simp only[if_true,Int.reduceEq,reduceCtorEq,if_false,or_true,true_or,or_false,or_self]at hpt
    go_wp2_with fail
    refine(hpt.out _).mono ?_
    rintro e w3 ⟨rfl,hb3⟩
    clear hpt x0 x1 x2c x3 x4 x5
    have hbw3:=hbw2.out.on hbw2.out.below.size hb3
    have hg3:=Hd (hg2.out.trans (Gr.below hb3))
    have hblk3:=(Gr.below hb3).blk hblk2.out (by decide)
    clear hb3 hbw2 hg2 hblk2
    have tb0:=tb_4_0
    have tb1:=tb_4_1
    have tb2:=tb_4_2
    have tb3:=tb_4_3
    have tb4:=tb_4_4
    have tb5:=tb_4_5
    have tb6:=tb_4_6
    have tb7:=tb_4_7
    have tb8:=tb_4_8
    have htx:=Hd (text_call W0 _ v2 t w3 hbw3 (by rw[List.length_append];simp;omega) htl)
    clear hbw3 hblk3
    go_wp2_with fail
    refine(htx.out).mono ?_
    rintro e w4 ⟨v4,rfl,hbw4,hg4⟩
    have hg5:=Hd (hg3.out.trans hg4)
    replace hbw4:=Hd hbw4
    clear hg3 hg4
    go_wp2
    go_ret
    exact⟨_,rfl,by have:=hbw4.out;rw[←hE.out];simpa[List.append_assoc]using this,hg5.out⟩
   ·have hE:Hid (bs++(lo8 (u64 9)::txL t)=E):=Hd (by rw[←hE0.out,encV_mk];simp)
    have htl:t.size≤10000000:=by
     have:=hlen
     rw[encV_mk]at this
     simp[txL,bigL_len]at this
     omega
    clear hE0
    have hpt:=Hd (fun W=>part_any (9) b n t x (.slice ao l.length cap) W)
    unfold partV agg6 at hpt
    simp only[if_true,Int.reduceEq,reduceCtorEq,if_false,or_true,true_or,or_false,or_self]at hpt
    go_wp2_with fail
    refine(hpt.out _).mono ?_
    rintro e w3 ⟨rfl,hb3⟩
    clear hpt x0 x1 x2c x3 x4 x5
    have hbw3:=hbw2.out.on hbw2.out.below.size hb3
    have hg3:=Hd (hg2.out.trans (Gr.below hb3))
    have hblk3:=(Gr.below hb3).blk hblk2.out (by decide)
    clear hb3 hbw2 hg2 hblk2
    have tb0:=tb_4_0
    have tb1:=tb_4_1
    have tb2:=tb_4_2
    have tb3:=tb_4_3
    have tb4:=tb_4_4
    have tb5:=tb_4_5
    have tb6:=tb_4_6
    have tb7:=tb_4_7
    have tb8:=tb_4_8
    have htx:=Hd (text_call W0 _ v2 t w3 hbw3 (by rw[List.length_append];simp;omega) htl)
    clear hbw3 hblk3
    go_wp2_with fail
    refine(htx.out).mono ?_
    rintro e w4 ⟨v4,rfl,hbw4,hg4⟩
    have hg5:=Hd (hg3.out.trans hg4)
    replace hbw4:=Hd hbw4
    clear hg3 hg4
    go_wp2
    go_ret
    exact⟨_,rfl,by have:=hbw4.out;rw[←hE.out];simpa[List.append_assoc]using this,hg5.out⟩
   ·have hE:Hid ((bs++[lo8 (u64 10)]++txL t)++txL x=E):=Hd (by rw[←hE0.out,encV_mk];simp)
    have htl:bs.length+1+4+t.size≤10000000∧x.size≤10000000:=by
     have:=hlen
     rw[encV_mk]at this
     simp[txL,bigL_len]at this
     omega
    clear hE0
    have hpt:=Hd (fun W=>part_any (10) b n t x (.slice ao l.length cap) W)
    unfold partV agg6 at hpt
    simp only[if_true,Int.reduceEq,reduceCtorEq,if_false,or_true,true_or,or_false,or_self]at hpt
    go_wp2_with fail
    refine(hpt.out _).mono ?_
    rintro e w3 ⟨rfl,hb3⟩
    clear hpt x0 x1 x2c x3 x4 x5
    have hbw3:=hbw2.out.on hbw2.out.below.size hb3
    have hg3:=Hd (hg2.out.trans (Gr.below hb3))
    have hblk3:=(Gr.below hb3).blk hblk2.out (by decide)
    clear hb3 hbw2 hg2 hblk2
    have tb0:=tb_7_0
    have tb1:=tb_7_1
    have tb2:=tb_7_2
    have tb3:=tb_7_3
    have tb4:=tb_7_4
    have tb5:=tb_7_5
    have tb6:=tb_7_6
    have tb7:=tb_7_7
    have tb8:=tb_7_8
    go_upto_region 20 with fail
    clear tb0 tb1 tb2 tb3 tb4 tb5 tb6 tb7 tb8
    have hbw5:=(hbw3.alloc hbw3.below.size (.cells #[.string t,.string x] 176)).on (by have:=hbw3.below.size;rw[World.size_alloc];omega) (below_drew _)
    have hg5:=Hd ((hg3.out.trans (Gr.below ((Below.refl _ _).alloc (Nat.le_refl _) (.cells #[.string t,.string x] 176)))).trans (Gr.below (below_drew _)))
    have hS0:Blk (w3.alloc (.cells #[.string t,.string x] 176)).drew w3.heap.size #[.string t,.string x] 176:=(Blk.new _ _ _).drewN 1
    clear hbw3 hg3 hblk3
    refine wp_region_held_drew (S:=fun V=>Blk V w3.heap.size #[.string t,.string x] 176) (by kernel_rfl) hS0 (fun hS=>?_)
    have hV:=hS0
    clear hS0
    generalize (w3.alloc (.cells #[.string t,.string x] 176)).drew=V0 at *
    refine tkS [0,1,2,4,5] ?_
    iterate 5
     refine tkC ?_ rfl (fun w' hS=>?_) hS ?_
     rotate_left
     ·
      obtain⟨c0,c1⟩:=Blk.two hS
      go_simp
      try with_reducible rfl
    refine rdH 3 rfl (fun K hK=>?_)
    clear hS
    go_simp
    refine(text_call W0 _ v2 t V0 hbw5 (by rw[List.length_append];simp;omega) (by omega)).mono ?_
    rintro e w6 ⟨v6,rfl,hbw6,hg6⟩
    go_wp2_with fail
    refine hKo hK (hg6.blk hV (by decide)) (fun hS=>?_)
    clear hK K
    refine rdH 6 rfl (fun K hK=>?_)
    clear hS
    go_simp
    refine(text_call W0 _ v6 x _ hbw6 (by rw[List.length_append,List.length_append];simp[txL,bigL_len];omega) htl.2).mono ?_
    rintro e w7 ⟨v7,rfl,hbw7,hg7⟩
    go_wp2_with fail
    refine hKo hK (hg7.blk (hg6.blk hV (by decide)) (by decide)) (fun hS=>?_)
    clear hK K
    refine tkH 7 ?_ rfl (fun w' hS=>?_) hS ?_
    rotate_left
    ·
     skip
     go_simp
     try with_reducible rfl
    refine wpAnyH_done (by kernel_rfl) ?_ _
    clear hS
    have hg8:=Hd ((hg5.out.trans hg6).trans hg7)
    have hbw8:=Hd hbw7
    clear hbw5 hg5 hbw6 hg6 hbw7 hg7 hV
    go_wp2
    go_ret
    exact⟨_,rfl,by have:=hbw8.out;rw[hE.out]at this;exact this,hg8.out⟩
   ·have hE:Hid (bs++[lo8 (u64 k)]=E):=Hd (by rw[←hE0.out,encV_mk,if_neg h1,if_neg (by omega),if_neg (by omega),if_neg h10,if_neg h5])
    have hpk:partV k b n t x (.slice ao l.length cap)=.iface 177 (.int .i64 k):=by
     unfold partV
     rw[if_neg h0,if_neg h1,if_neg h2,if_neg h3,if_neg (by omega),if_neg h5,if_neg (by omega),if_neg h10]
    have hpt:=Hd (fun W=>part_any k b n t x (.slice ao l.length cap) W)
    rw[hpk]at hpt
    unfold agg6 at hpt
    clear hpk h0 h1 h2 h3 h4 h5 h6 h7 h8 h9 h10 hE0
    go_wp2_with fail
    refine(hpt.out _).mono ?_
    rintro e w3 ⟨rfl,hb3⟩
    clear hpt x0 x1 x2c x3 x4 x5
    have hbw3:=Hd (hbw2.out.on hbw2.out.below.size hb3)
    have hg3:=Hd (hg2.out.trans (Gr.below hb3))
    clear hb3 hbw2 hg2 hblk2
    have tb0:=tb_8_0
    have tb1:=tb_8_1
    have tb2:=tb_8_2
    have tb3:=tb_8_3
    have tb4:=tb_8_4
    have tb5:=tb_8_5
    have tb6:=tb_8_6
    have tb7:=tb_8_7
    have tb8:=tb_8_8
    go_wp2
    go_ret
    exact⟨_,rfl,by have:=hbw3.out;rw[←hE.out];exact this,hg3.out⟩
theorem BW.form{W W1:World}{B:Nat}{v:Value}{l:List UInt8}(h:BW W B v l W1):∃ao cap,v=.slice ao l.length cap:=by
 rcases h.own.2 with⟨hv,hn⟩|⟨g,cap,cur,hv,_⟩
 ·exact⟨none,0,by rw[hv,hn]⟩
 ·exact⟨_,cap,hv⟩
def encR(v:V):List UInt8:=if mayV v then encV v else[]
theorem encode_call(N:Nat)(hN:N≤9223372036854775807)(w:World)(hE:Env w)(k:Int)(b:Bool)(n:Int)(hk:In64 k)(hn:In64 n)(t x:ByteArray)(s:Value)(l:List V)(ha:LA w N s l)(ht:t.size≤N)(hx:x.size≤N)(hlen:(encV (.mk k b n t x l)).length≤10000000):
 Calls Tryz.prog 59 #[agg6 k b n t x s] w fun e w'=>∃v',e=.returned (.tuple #[v',.int .i64 (if mayV (.mk k b n t x l) then 0 else 1)])∧BW w w.heap.size v' (encR (.mk k b n t x l)) w':=by
 have hal:Below w.heap.size w (w.alloc (.cells #[.int .i64 k,.bool b,.int .i64 n,.string t,.string x,s] 34)):=(Below.refl _ _).alloc (Nat.le_refl _) _
 have hblk:=Blk.new w #[.int .i64 k,.bool b,.int .i64 n,.string t,.string x,s] 34
 have hck:=check_any N hN _ (hE.below hal) k b n t x s l (ha.stay hal) ht hx
 have hlay:∀W,BW w w.heap.size (.slice none 0 0) [] W→Calls Tryz.prog 74 #[.slice none 0 0,agg6 k b n t x s] W fun e w'=>∃v',e=.returned v'∧BW w w.heap.size v' ([]++encV (.mk k b n t x l)) w'∧Gr W w':=
  fun W hW=>lay_all N hN (SizeOf.sizeOf l+1) w W [] _ k b n hk hn t x s l (Nat.lt_succ_self _) ha hW (by simpa using hlen)
 unfold encR
 generalize mayV (.mk k b n t x l)=p at *
 generalize encV (.mk k b n t x l)=E at *
 unfold agg6 at hck hlay ⊢
 have hbw:=(BW.start w).alloc (Nat.le_refl _) (.cells #[.int .i64 k,.bool b,.int .i64 n,.string t,.string x,s] 34)
 replace hck:=Hd hck
 replace hlay:=Hd hlay
 clear ha hE
 go_enter Tryz.func59,Tryz.ntmps59
 go_wp2_with fail
 refine(hck.out).mono ?_
 rintro e w3 ⟨rfl,hb3⟩
 have hbw3:=hbw.on hal.size hb3
 have hblk3:=hblk.keep (Keep.ofBelow hb3) (by simp)
 clear hck hbw hb3 hblk hal
 have x0:=hblk3.cell 0 rfl
 have x1:=hblk3.cell 1 rfl
 have x2c:=hblk3.cell 2 rfl
 have x3:=hblk3.cell 3 rfl
 have x4:=hblk3.cell 4 rfl
 have x5:=hblk3.cell 5 rfl
 cases p
 ·replace hbw3:=Hd hbw3
  clear hblk3
  go_wp2
  go_ret2
  exact⟨_,rfl,hbw3.out⟩
 ·go_wp2_with fail
  refine(hlay.out _ hbw3).mono ?_
  rintro e w4 ⟨v4,rfl,hbw4,hg4⟩
  rw[List.nil_append]at hbw4
  clear hbw3 hblk3 hlay hg4
  replace hbw4:=Hd hbw4
  go_wp2
  go_ret2
  exact⟨_,rfl,hbw4.out⟩
end Go.Proofs.YtmpldjbdhbapbaaGreatDoor.val
