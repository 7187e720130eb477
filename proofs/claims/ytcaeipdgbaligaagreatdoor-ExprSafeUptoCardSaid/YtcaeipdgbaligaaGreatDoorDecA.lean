/- Texts DecLib, DecTold, DecRead, DecRead2, DecCheck, DecCanon, one behind the other. -/
import Derived.Test.YtcaeipdgbaligaaGreatDoorDecNum
import Derived.Test.YtcaeipdgbaligaaGreatDoorShelf
import Derived.Shelf.Strings.SlTrimAscii
set_option linter.unusedVariables false
set_option maxRecDepth 100000
set_option maxHeartbeats 1000000
namespace Go.Proofs.YtcaeipdgbaligaaGreatDoor.dec
open Go.ChangeShapes Go.WideShapes Go.ChangeAt Go.RowKit kit
def tx(l:List UInt8):ByteArray:=⟨l.toArray⟩
@[simp] theorem tx_list(l:List UInt8):(tx l).data.toList=l:=rfl
@[simp] theorem tx_size(l:List UInt8):(tx l).size=l.length:=rfl
theorem ba_ext{a b:ByteArray}(h:a.data.toList=b.data.toList):a=b:=by
 cases a;cases b;simp only[ByteArray.mk.injEq];exact Array.toList_inj.1 h
structure Env(w:World):Prop where
 max:∃m,w.cell? ⟨0,0,none⟩=some (.int .i64 m)
 size:0+1≤w.heap.size
def toldL(neg:Bool)(W P:List UInt8):List UInt8:=if 40<W.length∨20<P.length then[] else fmt (neg&&decide (¬(W=[]∧P=[]))) W P
def toldE(neg:Bool)(W P:List UInt8):Int:=if 40<W.length∨20<P.length then 2 else 0
theorem ret_told{s t:ByteArray}{a b:Int}(h:s.data.toList=t.data.toList)(hab:a=b):Ending.returned (.tuple #[.string s,.int .i64 a])=.returned (.tuple #[.string t,.int .i64 b]):=by rw[ba_ext h,hab]
theorem told_walk(neg:Bool)(s:ByteArray)(k sc:Nat)(w:World)(hs:s.size=k+sc)(hk:1≤k)(hb:k≤100000)(hsc:sc≤100000):
 Calls Tryz.prog 139 #[.bool neg,.string s,.int .i64 sc] w fun e w'=>e=.returned (.tuple #[.string (tx (toldL neg (trimL (s.data.toList.take k)) (trimR ((s.data.toList.drop k).take sc)))),.int .i64 (toldE neg (trimL (s.data.toList.take k)) (trimR ((s.data.toList.drop k).take sc)))])∧Below w.heap.size w w':=by
 go_enter Tryz.func139,Tryz.ntmps139
 go_wp2
 go_quiet ((go_at_call 158;exact Calls.quiet_of_same (Tryz.strings_TrimRight_one _ 48 (by decide) _ (by simp;omega))))
 go_wp2_with (go_at_call 159;refine(Tryz.strings_TrimLeft_one _ 48 (by decide) _).mono ?_;rintro e w' ⟨rfl,rfl⟩)
 all_goals
  go_ret2
  refine⟨?_,Below_drewN _ (Below.refl _ _)⟩
  rw[show Lib.trimLeftB (List.take k s.data.toList) 48=trimL (List.take k s.data.toList) from rfl,show Lib.trimRightB (List.take sc (List.drop k s.data.toList)) 48=trimR (List.take sc (List.drop k s.data.toList)) from rfl]at *
  generalize trimL (List.take k s.data.toList)=W at *
  generalize trimR (List.take sc (List.drop k s.data.toList))=P at *
  refine ret_told ?_ ?_
  ·simp_all [toldL,fmt]
   try omega
  ·simp_all [toldE]
   try omega
theorem repeatL_48(c:Nat):Lib.repeatL [48] c=List.replicate c 48:=by
 induction c with
 |zero=>rfl
 |succ c ih=>rw[Lib.repeatL,ih];rfl
theorem told_walk2(neg:Bool)(s:ByteArray)(sc:Nat)(w:World)(hs:s.size≤sc)(hsc:sc≤100000)(l:List UInt8)(hl:List.replicate (sc+1-s.size) 48++s.data.toList=l):
 Calls Tryz.prog 139 #[.bool neg,.string s,.int .i64 sc] w fun e w'=>e=.returned (.tuple #[.string (tx (toldL neg (trimL (l.take 1)) (trimR (l.tail.take sc)))),.int .i64 (toldE neg (trimL (l.take 1)) (trimR (l.tail.take sc)))])∧Below w.heap.size w w':=by
 have hb1:((s.size:Nat):Int)≤sc:=by omega
 replace hl:=Hd hl
 go_enter Tryz.func139,Tryz.ntmps139
 go_wp2_with fail
 rw[show((sc:Int)+1-(s.size:Int))=((sc+1-s.size:Nat):Int) by omega]
 refine(Tryz.strings_Repeat ⟨#[48]⟩ (sc+1-s.size) w (by omega) (by have:(ByteArray.mk #[48]).size=1:=rfl;rw[this];omega)).mono ?_
 rintro e w1 ⟨rfl,hw1⟩
 replace hw1:=Hd hw1
 have hsum:((⟨(Lib.repeatL (ByteArray.mk #[48]).data.toList (sc+1-s.size)).toArray⟩:ByteArray).size:Int)+(s.size:Int)≤9223372036854775807:=by
  have:(⟨(Lib.repeatL (ByteArray.mk #[48]).data.toList (sc+1-s.size)).toArray⟩:ByteArray).size=sc+1-s.size:=by
   show(Lib.repeatL _ _).toArray.size=_
   simp[repeatL_48]
  omega
 go_wp2_with fail
 obtain⟨t,ht⟩:∃t:ByteArray,((⟨(Lib.repeatL [48] (sc+1-s.size)).toArray⟩:ByteArray)++s)=t:=⟨_,rfl⟩
 rw[ht]
 have htl:t.data.toList=l:=by rw[←ht,←hl.out];simp[repeatL_48]
 have hts:t.size=1+sc:=by
  have:t.size=t.data.toList.length:=by simp
  rw[this,htl,←hl.out];simp;omega
 replace htl:=Hd htl
 clear ht hsum
 go_quiet ((go_at_call 158;exact Calls.quiet_of_same (Tryz.strings_TrimRight_one _ 48 (by decide) _ (by simp;omega))))
 go_wp2_with (go_at_call 159;refine(Tryz.strings_TrimLeft_one _ 48 (by decide) _).mono ?_;rintro e w' ⟨rfl,rfl⟩)
 all_goals
  go_ret2
  refine⟨?_,Below_drewN _ hw1.out⟩
  have e:=htl.out
  clear htl hl hw1
  subst e
  rw[show Lib.trimLeftB (List.take 1 t.data.toList) 48=trimL (List.take 1 t.data.toList) from rfl,show Lib.trimRightB (List.take sc t.data.toList.tail) 48=trimR (List.take sc t.data.toList.tail) from rfl]at *
  generalize trimL (List.take 1 t.data.toList)=W at *
  generalize trimR (List.take sc t.data.toList.tail)=P at *
  refine ret_told ?_ ?_
  ·simp_all [toldL,fmt]
   try omega
  ·simp_all [toldE]
   try omega
def rv(p:List UInt8×Int):Value:=.tuple #[.string (tx p.1),.int .i64 p.2]
theorem toldP_eq(neg:Bool)(l:List UInt8)(k sc:Nat)(hl:l.length=k+sc)(hd:allD l=true):
 (toldL neg (trimL (l.take k)) (trimR ((l.drop k).take sc)),toldE neg (trimL (l.take k)) (trimR ((l.drop k).take sc)))=toldP neg (val l) sc:=by
 have e1:(l.drop k).take sc=l.drop k:=List.take_of_length_le (by rw[List.length_drop];omega)
 have e2:val l=val (l.take k) * 10 ^ sc+val (l.drop k):=by
  conv=>lhs;rw[←List.take_append_drop k l]
  rw[val_append,List.length_drop,hl,Nat.add_sub_cancel_left]
 have e3:val (l.drop k)<10 ^ sc:=by have:=val_lt (allD_drop k hd);rwa [List.length_drop,hl,Nat.add_sub_cancel_left]at this
 have e4:val l / 10 ^ sc=val (l.take k):=by rw[e2,Nat.add_comm,Nat.add_mul_div_right _ _ (Nat.pow_pos (by decide)),Nat.div_eq_of_lt e3,Nat.zero_add]
 have e5:trimL (l.take k)=digs (val l / 10 ^ sc):=by rw[trimL_eq (allD_take k hd),e4]
 have e6:trimR (l.drop k)=frac sc (val l):=by
  rw[trimR_eq (allD_drop k hd),List.length_drop,hl,Nat.add_sub_cancel_left,←frac_mod sc (val l),e2,Nat.add_comm,Nat.add_mul_mod_self_right,Nat.mod_eq_of_lt e3]
 have e7:(digs (val l / 10 ^ sc)=[]∧frac sc (val l)=[])↔val l=0:=by
  rw[digs_nil,frac_nil]
  have h0:0<10 ^ sc:=Nat.pow_pos (by decide)
  constructor
  ·intro⟨h1,h2⟩
   have:=Nat.div_add_mod (val l) (10 ^ sc)
   rw[h1,h2]at this;simpa using this.symm
  ·intro h;rw[h];simp
 rw[e1,e5,e6]
 unfold toldP told toldL toldE
 by_cases hc:40<(digs (val l / 10 ^ sc)).length∨20<(frac sc (val l)).length
 ·simp only[if_pos hc]
 ·simp only[if_neg hc,e7]
theorem told_any(neg:Bool)(s:ByteArray)(sc:Nat)(w:World)(hd:allD s.data.toList=true)(hsz:s.size≤100000)(hsc:sc≤100000):
 Calls Tryz.prog 139 #[.bool neg,.string s,.int .i64 sc] w fun e w'=>e=.returned (rv (toldP neg (val s.data.toList) sc))∧Below w.heap.size w w':=by
 have hlen:s.data.toList.length=s.size:=rfl
 by_cases h:sc<s.size
 ·obtain⟨k,hk⟩:∃k,s.size=k+sc:=⟨s.size-sc,by omega⟩
  have:=toldP_eq neg s.data.toList k sc (by omega) hd
  rw[←this]
  exact told_walk neg s k sc w hk (by omega) (by omega) hsc
 ·have hl:allD (List.replicate (sc+1-s.size) 48++s.data.toList)=true:=by simp[allD_replicate,hd]
  have:=toldP_eq neg (List.replicate (sc+1-s.size) 48++s.data.toList) 1 sc (by rw[List.length_append,List.length_replicate];omega) hl
  rw[val_append,val_replicate,Nat.zero_mul,Nat.zero_add,List.drop_one]at this
  rw[←this]
  exact told_walk2 neg s sc w (by omega) hsc _ rfl
def numB(l:List UInt8):Bool:=!l.isEmpty&&allD l
def digits10:ByteArray:=⟨#[48,49,50,51,52,53,54,55,56,57]⟩
theorem in_digits_fin:∀n:Fin 256,digits10.data.toList.contains (UInt8.ofNat n.val)=isD (UInt8.ofNat n.val):=by decide +kernel
theorem in_digits(c:UInt8):digits10.data.toList.contains c=isD c:=by
 have:=in_digits_fin ⟨c.toNat,c.toNat_lt⟩
 simpa using this
theorem dw_nil(p:UInt8→Bool)(m:List UInt8):(m.dropWhile p).isEmpty=m.all p:=by
 induction m with
 |nil=>rfl
 |cons a m ih=>
  by_cases h:p a=true
  ·rw[List.dropWhile_cons_of_pos h,ih,List.all_cons,h,Bool.true_and]
  ·rw[List.dropWhile_cons_of_neg h,List.all_cons,Bool.eq_false_iff.2 h];rfl
theorem dw_all(p:UInt8→Bool)(m:List UInt8):(m.dropWhile p).all p=m.all p:=by
 induction m with
 |nil=>rfl
 |cons a m ih=>
  by_cases h:p a=true
  ·rw[List.dropWhile_cons_of_pos h,ih,List.all_cons,h,Bool.true_and]
  ·rw[List.dropWhile_cons_of_neg h]
theorem trimS_nil(l:List UInt8):(Lib.trimS l digits10.data.toList).isEmpty=allD l:=by
 unfold Lib.trimS Lib.trimLeftS Lib.trimRightS
 rw[dw_nil,List.all_reverse,dw_all,List.all_reverse]
 unfold allD
 congr 1
 funext c
 exact in_digits c
theorem numeral_any(s:ByteArray)(w:World)(hs:s.size≤9223372036854775807):
 Calls Tryz.prog 151 #[.string s] w fun e w'=>e=.returned (.bool (numB s.data.toList))∧Below w.heap.size w w':=by
 have hb:=trimS_nil s.data.toList
 by_cases h:s.data.toList=[]
 ·have h1:s.toList.isEmpty=true:=by rw[Go.ByteArray.toList_eq,h];rfl
  have h2:s.toList=[]:=by rw[Go.ByteArray.toList_eq];exact h
  have e:numB s.data.toList=false:=by unfold numB;rw[h];rfl
  replace e:=Hd e
  clear h hb
  go_enter Tryz.func151,Tryz.ntmps151
  go_wp2
  go_ret
  exact⟨ret_bool e.out.symm,Below.refl _ _⟩
 ·have h1:s.toList.isEmpty=false:=by rw[Go.ByteArray.toList_eq];exact Bool.eq_false_iff.2 (fun e=>h (List.isEmpty_iff.1 e))
  have e:numB s.data.toList=(Lib.trimS s.data.toList digits10.data.toList).isEmpty:=by
   rw[hb];unfold numB
   cases hl:s.data.toList with
   |nil=>exact absurd hl h
   |cons c l=>rfl
  replace e:=Hd e
  clear h hb
  go_enter Tryz.func151,Tryz.ntmps151
  go_wp2_with fail
  refine(Any.strings_Trim_laid Tryz.lays160 (by kernel_rfl) s digits10 _ hs (by decide) (ascii_of_all (by decide))).mono ?_
  rintro e' w' ⟨rfl,hb⟩
  go_wp2
  go_ret
  exact⟨ret_bool e.out.symm,hb⟩
theorem Env.drewN{w:World}(h:Env w)(n:Nat):Env (w.drewN n):=⟨h.max,h.size⟩
theorem var?_below{P:Program}{B:Nat}{w w':World}{name:String}(hb:Below B w w')(hg:∀g,P.globalNamed name=some g→g<B):w'.var? P name=w.var? P name:=by
 unfold World.var?
 cases h:P.globalNamed name with
 |none=>rfl
 |some g=>simp[hb.block g (hg g h)]
theorem Env.below{w w':World}(h:Env w)(hb:Below w.heap.size w w'):Env w':=by
 have h8:=h.size
 have hb8:Below (0+1) w w':=hb.mono h8
 obtain⟨m,hm⟩:=h.max
 exact⟨⟨m,(hb8.cell (p:=⟨0,0,none⟩) (by decide)).trans hm⟩,Nat.le_trans h8 hb.size⟩
def readT(neg:Bool)(r:List UInt8):List UInt8×Int:=
 if numB (Lib.cut r [46]).1&&(!(Lib.cut r [46]).2.2||numB (Lib.cut r [46]).2.1) then toldP neg (val ((Lib.cut r [46]).1++(Lib.cut r [46]).2.1)) (Lib.cut r [46]).2.1.length else([],6)
def readP(l:List UInt8):List UInt8×Int:=match l with
 |45::r=>readT true r
 |43::r=>readT false r
 |l=>readT false l
theorem cut_le(r:List UInt8):(Lib.cut r [46]).1.length≤r.length∧(Lib.cut r [46]).2.1.length≤r.length∧((Lib.cut r [46]).2.2=false→(Lib.cut r [46]).2.1=[]):=by
 unfold Lib.cut
 split
 ·refine⟨by simp;omega,by simp,by simp⟩
 ·simp
theorem numB_all{l:List UInt8}(h:numB l=true):allD l=true:=by unfold numB at h;rw[Bool.and_eq_true]at h;exact h.2
theorem numeral_at(s:ByteArray)(b:Bool)(h:numB s.data.toList=b)(w:World)(hs:s.size≤9223372036854775807):
 Calls Tryz.prog 151 #[.string s] w fun e w'=>e=.returned (.bool b)∧Below w.heap.size w w':=h ▸ numeral_any s w hs
theorem told_at(neg:Bool)(s:ByteArray)(N:Nat)(sc:Nat)(sci:Int)(hsci:sci=(sc:Nat))(w:World)(hN:val s.data.toList=N)(hd:allD s.data.toList=true)(hsz:s.size≤100000)(hsc:sc≤100000):
 Calls Tryz.prog 139 #[.bool neg,.string s,.int .i64 sci] w fun e w'=>e=.returned (.tuple #[.string (tx (toldP neg N sc).1),.int .i64 (toldP neg N sc).2])∧Below w.heap.size w w':=by
 subst hsci;exact hN ▸ told_any neg s sc w hd hsz hsc
theorem two_list(a b:List UInt8):((⟨a.toArray⟩:ByteArray)++⟨b.toArray⟩).data.toList=a++b:=by simp
theorem two_size(a b:List UInt8):((⟨a.toArray⟩:ByteArray)++⟨b.toArray⟩).size=a.length+b.length:=by
 have:∀x:ByteArray,x.size=x.data.toList.length:=fun _=>rfl
 rw[this,two_list,List.length_append]
theorem read_plain(s:ByteArray)(w:World)(hE:Env w)(hs:s.size≤50000)(h1:Lib.hasPrefix s.data.toList [45]=false)(h2:Lib.hasPrefix s.data.toList [43]=false):
 Calls Tryz.prog 129 #[.string s] w fun e w'=>e=.returned (rv (readT false s.data.toList))∧Below w.heap.size w w':=by
 obtain⟨m,hm⟩:=hE.max
 have hts:s.size≤50000:=hs
 replace hm:=Hd hm
 replace hts:=Hd hts
 go_enter Tryz.func129,Tryz.ntmps129
 go_wp2_with fail
 refine(Tryz.strings_HasPrefix s ⟨#[45]⟩ _).mono ?_
 rintro e1 w1 ⟨rfl,rfl⟩
 go_wp2_with fail
 refine(Tryz.strings_HasPrefix s ⟨#[43]⟩ _).mono ?_
 rintro e1 w1 ⟨rfl,rfl⟩
 clear hE
 go_wp2_with fail
 refine(Tryz.strings_Cut s ⟨#[46]⟩ m _ (by have:=hts.out;omega) hm.out).mono ?_
 rintro e1 w1 ⟨rfl,n1,rfl⟩
 replace hm:=Hd hm
 generalize hCW:(Lib.cut (s).data.toList (ByteArray.mk #[46]).data.toList).1=W
 generalize hCP:(Lib.cut (s).data.toList (ByteArray.mk #[46]).data.toList).2.1=P
 generalize hCT:(Lib.cut (s).data.toList (ByteArray.mk #[46]).data.toList).2.2=pt
 have hcl:=cut_le (s).data.toList
 have hrt:readT false s.data.toList=if numB W&&(!pt||numB P) then toldP false (val (W++P)) P.length else([],6):=by first|(rw[←hCW,←hCP,←hCT];rfl)|(rw[←hCW,←hCP,←hCT,←hx.out];rfl)
 rw[show(ByteArray.mk #[46]).data.toList=[46] from rfl]at hCW hCP hCT
 rw[hCW,hCP,hCT]at hcl
 clear hCW hCP hCT
 obtain⟨cl1,cl2,cl3⟩:=hcl
 have hl1:W.length≤50000:=by have:=hts.out;have h3:(s).data.toList.length=(s).size:=rfl;omega
 have hl2:P.length≤50000:=by have:=hts.out;have h3:(s).data.toList.length=(s).size:=rfl;omega
 clear cl1 cl2
 replace cl3:=Hd cl3
 replace hrt:=Hd hrt
 cases hW:numB W
 ·go_wp2_with fail
  refine(numeral_at ⟨W.toArray⟩ false hW _ (by show W.toArray.size≤_;simp;omega)).mono ?_
  rintro e2 w2 ⟨rfl,hb2⟩
  go_wp2
  go_ret2
  exact⟨ret_val (by rw[hrt.out,hW];rfl),(Below_drewN _ (Below.refl _ _)).trans hb2⟩
 ·cases pt
  ·have hP:=cl3.out rfl
   subst hP
   go_wp2_with fail
   refine(numeral_at ⟨W.toArray⟩ true hW _ (by show W.toArray.size≤_;simp;omega)).mono ?_
   rintro e2 w2 ⟨rfl,hb2⟩
   go_wp2_with fail
   refine(told_at false _ (val (W++[])) 0 _ rfl _ (by rw[show(#[]:Array UInt8)=([]:List UInt8).toArray from rfl,two_list]) (by rw[show(#[]:Array UInt8)=([]:List UInt8).toArray from rfl,two_list,List.append_nil];exact numB_all hW) (by rw[show(#[]:Array UInt8)=([]:List UInt8).toArray from rfl,two_size];simp;omega) (by omega)).mono ?_
   rintro e3 w3 ⟨rfl,hb3⟩
   go_wp2
   go_ret2
   exact⟨ret_val (by rw[hrt.out,hW,List.append_nil];rfl),((Below_drewN _ (Below.refl _ _)).trans hb2).trans (hb3.mono hb2.size)⟩
  ·cases hP:numB P
   ·go_wp2_with fail
    refine(numeral_at ⟨W.toArray⟩ true hW _ (by show W.toArray.size≤_;simp;omega)).mono ?_
    rintro e2 w2 ⟨rfl,hb2⟩
    go_wp2_with fail
    refine(numeral_at ⟨P.toArray⟩ false hP _ (by show P.toArray.size≤_;simp;omega)).mono ?_
    rintro e3 w3 ⟨rfl,hb3⟩
    go_wp2
    go_ret2
    exact⟨ret_val (by rw[hrt.out,hW,hP];rfl),((Below_drewN _ (Below.refl _ _)).trans hb2).trans (hb3.mono hb2.size)⟩
   ·go_wp2_with fail
    refine(numeral_at ⟨W.toArray⟩ true hW _ (by show W.toArray.size≤_;simp;omega)).mono ?_
    rintro e2 w2 ⟨rfl,hb2⟩
    go_wp2_with fail
    refine(numeral_at ⟨P.toArray⟩ true hP _ (by show P.toArray.size≤_;simp;omega)).mono ?_
    rintro e3 w3 ⟨rfl,hb3⟩
    have hsum:((⟨W.toArray⟩:ByteArray).size:Int)+((⟨P.toArray⟩:ByteArray).size:Int)≤9223372036854775807:=by
     show((W.toArray.size:Nat):Int)+((P.toArray.size:Nat):Int)≤_;simp;omega
    go_wp2_with fail
    refine(told_at false _ (val (W++P)) P.length _ rfl _ (by rw[two_list]) (by rw[two_list,allD_append,numB_all hW,numB_all hP];rfl) (by rw[two_size];omega) (by omega)).mono ?_
    rintro e4 w4 ⟨rfl,hb4⟩
    go_wp2
    go_ret2
    exact⟨ret_val (by rw[hrt.out,hW,hP];rfl),(((Below_drewN _ (Below.refl _ _)).trans hb2).trans (hb3.mono hb2.size)).trans (hb4.mono (Nat.le_trans hb2.size hb3.size))⟩
theorem read_signed(neg:Bool)(s:ByteArray)(w:World)(hE:Env w)(hs:s.size≤50000)(h0:1≤s.size)(h1:Lib.hasPrefix s.data.toList [45]=neg)(h2:neg=false→Lib.hasPrefix s.data.toList [43]=true):
 Calls Tryz.prog 129 #[.string s] w fun e w'=>e=.returned (rv (readT neg s.data.toList.tail))∧Below w.heap.size w w':=by
 obtain⟨m,hm⟩:=hE.max
 have hts:(s.extract 1 s.size).size≤50000:=by simp;omega
 have htl:(s.extract 1 s.size).data.toList=s.data.toList.tail:=by
  rw[Lib.extract_data,List.drop_one,List.take_of_length_le]
  rw[List.length_tail];exact Nat.le_refl _
 have h0i:(1:Int)≤(s.size:Nat):=by omega
 replace hm:=Hd hm
 replace hts:=Hd hts
 replace htl:=Hd htl
 cases neg
 ·replace h2:=h2 rfl
  go_enter Tryz.func129,Tryz.ntmps129
  go_wp2_with fail
  refine(Tryz.strings_HasPrefix s ⟨#[45]⟩ _).mono ?_
  rintro e1 w1 ⟨rfl,rfl⟩
  go_wp2_with fail
  refine(Tryz.strings_HasPrefix s ⟨#[43]⟩ _).mono ?_
  rintro e1 w1 ⟨rfl,rfl⟩
  clear hE
  go_wp2_with fail
  obtain⟨t,ht⟩:∃t,s.extract 1 s.size=t:=⟨_,rfl⟩
  rw[ht]
  have hx:Hid (t.data.toList=s.data.toList.tail):=by rw[←ht];exact htl.out
  rw[ht]at hts
  clear htl ht
  go_wp2_with fail
  refine(Tryz.strings_Cut t ⟨#[46]⟩ m _ (by have:=hts.out;omega) hm.out).mono ?_
  rintro e1 w1 ⟨rfl,n1,rfl⟩
  replace hm:=Hd hm
  generalize hCW:(Lib.cut (t).data.toList (ByteArray.mk #[46]).data.toList).1=W
  generalize hCP:(Lib.cut (t).data.toList (ByteArray.mk #[46]).data.toList).2.1=P
  generalize hCT:(Lib.cut (t).data.toList (ByteArray.mk #[46]).data.toList).2.2=pt
  have hcl:=cut_le (t).data.toList
  have hrt:readT false s.data.toList.tail=if numB W&&(!pt||numB P) then toldP false (val (W++P)) P.length else([],6):=by first|(rw[←hCW,←hCP,←hCT];rfl)|(rw[←hCW,←hCP,←hCT,←hx.out];rfl)
  rw[show(ByteArray.mk #[46]).data.toList=[46] from rfl]at hCW hCP hCT
  rw[hCW,hCP,hCT]at hcl
  clear hCW hCP hCT
  obtain⟨cl1,cl2,cl3⟩:=hcl
  have hl1:W.length≤50000:=by have:=hts.out;have h3:(t).data.toList.length=(t).size:=rfl;omega
  have hl2:P.length≤50000:=by have:=hts.out;have h3:(t).data.toList.length=(t).size:=rfl;omega
  clear cl1 cl2
  replace cl3:=Hd cl3
  replace hrt:=Hd hrt
  cases hW:numB W
  ·go_wp2_with fail
   refine(numeral_at ⟨W.toArray⟩ false hW _ (by show W.toArray.size≤_;simp;omega)).mono ?_
   rintro e2 w2 ⟨rfl,hb2⟩
   go_wp2
   go_ret2
   exact⟨ret_val (by rw[hrt.out,hW];rfl),(Below_drewN _ (Below.refl _ _)).trans hb2⟩
  ·cases pt
   ·have hP:=cl3.out rfl
    subst hP
    go_wp2_with fail
    refine(numeral_at ⟨W.toArray⟩ true hW _ (by show W.toArray.size≤_;simp;omega)).mono ?_
    rintro e2 w2 ⟨rfl,hb2⟩
    go_wp2_with fail
    refine(told_at false _ (val (W++[])) 0 _ rfl _ (by rw[show(#[]:Array UInt8)=([]:List UInt8).toArray from rfl,two_list]) (by rw[show(#[]:Array UInt8)=([]:List UInt8).toArray from rfl,two_list,List.append_nil];exact numB_all hW) (by rw[show(#[]:Array UInt8)=([]:List UInt8).toArray from rfl,two_size];simp;omega) (by omega)).mono ?_
    rintro e3 w3 ⟨rfl,hb3⟩
    go_wp2
    go_ret2
    exact⟨ret_val (by rw[hrt.out,hW,List.append_nil];rfl),((Below_drewN _ (Below.refl _ _)).trans hb2).trans (hb3.mono hb2.size)⟩
   ·cases hP:numB P
    ·go_wp2_with fail
     refine(numeral_at ⟨W.toArray⟩ true hW _ (by show W.toArray.size≤_;simp;omega)).mono ?_
     rintro e2 w2 ⟨rfl,hb2⟩
     go_wp2_with fail
     refine(numeral_at ⟨P.toArray⟩ false hP _ (by show P.toArray.size≤_;simp;omega)).mono ?_
     rintro e3 w3 ⟨rfl,hb3⟩
     go_wp2
     go_ret2
     exact⟨ret_val (by rw[hrt.out,hW,hP];rfl),((Below_drewN _ (Below.refl _ _)).trans hb2).trans (hb3.mono hb2.size)⟩
    ·go_wp2_with fail
     refine(numeral_at ⟨W.toArray⟩ true hW _ (by show W.toArray.size≤_;simp;omega)).mono ?_
     rintro e2 w2 ⟨rfl,hb2⟩
     go_wp2_with fail
     refine(numeral_at ⟨P.toArray⟩ true hP _ (by show P.toArray.size≤_;simp;omega)).mono ?_
     rintro e3 w3 ⟨rfl,hb3⟩
     have hsum:((⟨W.toArray⟩:ByteArray).size:Int)+((⟨P.toArray⟩:ByteArray).size:Int)≤9223372036854775807:=by
      show((W.toArray.size:Nat):Int)+((P.toArray.size:Nat):Int)≤_;simp;omega
     go_wp2_with fail
     refine(told_at false _ (val (W++P)) P.length _ rfl _ (by rw[two_list]) (by rw[two_list,allD_append,numB_all hW,numB_all hP];rfl) (by rw[two_size];omega) (by omega)).mono ?_
     rintro e4 w4 ⟨rfl,hb4⟩
     go_wp2
     go_ret2
     exact⟨ret_val (by rw[hrt.out,hW,hP];rfl),(((Below_drewN _ (Below.refl _ _)).trans hb2).trans (hb3.mono hb2.size)).trans (hb4.mono (Nat.le_trans hb2.size hb3.size))⟩
 ·go_enter Tryz.func129,Tryz.ntmps129
  go_wp2_with fail
  refine(Tryz.strings_HasPrefix s ⟨#[45]⟩ _).mono ?_
  rintro e1 w1 ⟨rfl,rfl⟩
  clear hE
  go_wp2_with fail
  obtain⟨t,ht⟩:∃t,s.extract 1 s.size=t:=⟨_,rfl⟩
  rw[ht]
  have hx:Hid (t.data.toList=s.data.toList.tail):=by rw[←ht];exact htl.out
  rw[ht]at hts
  clear htl ht
  go_wp2_with fail
  refine(Tryz.strings_Cut t ⟨#[46]⟩ m _ (by have:=hts.out;omega) hm.out).mono ?_
  rintro e1 w1 ⟨rfl,n1,rfl⟩
  replace hm:=Hd hm
  generalize hCW:(Lib.cut (t).data.toList (ByteArray.mk #[46]).data.toList).1=W
  generalize hCP:(Lib.cut (t).data.toList (ByteArray.mk #[46]).data.toList).2.1=P
  generalize hCT:(Lib.cut (t).data.toList (ByteArray.mk #[46]).data.toList).2.2=pt
  have hcl:=cut_le (t).data.toList
  have hrt:readT true s.data.toList.tail=if numB W&&(!pt||numB P) then toldP true (val (W++P)) P.length else([],6):=by first|(rw[←hCW,←hCP,←hCT];rfl)|(rw[←hCW,←hCP,←hCT,←hx.out];rfl)
  rw[show(ByteArray.mk #[46]).data.toList=[46] from rfl]at hCW hCP hCT
  rw[hCW,hCP,hCT]at hcl
  clear hCW hCP hCT
  obtain⟨cl1,cl2,cl3⟩:=hcl
  have hl1:W.length≤50000:=by have:=hts.out;have h3:(t).data.toList.length=(t).size:=rfl;omega
  have hl2:P.length≤50000:=by have:=hts.out;have h3:(t).data.toList.length=(t).size:=rfl;omega
  clear cl1 cl2
  replace cl3:=Hd cl3
  replace hrt:=Hd hrt
  cases hW:numB W
  ·go_wp2_with fail
   refine(numeral_at ⟨W.toArray⟩ false hW _ (by show W.toArray.size≤_;simp;omega)).mono ?_
   rintro e2 w2 ⟨rfl,hb2⟩
   go_wp2
   go_ret2
   exact⟨ret_val (by rw[hrt.out,hW];rfl),(Below_drewN _ (Below.refl _ _)).trans hb2⟩
  ·cases pt
   ·have hP:=cl3.out rfl
    subst hP
    go_wp2_with fail
    refine(numeral_at ⟨W.toArray⟩ true hW _ (by show W.toArray.size≤_;simp;omega)).mono ?_
    rintro e2 w2 ⟨rfl,hb2⟩
    go_wp2_with fail
    refine(told_at true _ (val (W++[])) 0 _ rfl _ (by rw[show(#[]:Array UInt8)=([]:List UInt8).toArray from rfl,two_list]) (by rw[show(#[]:Array UInt8)=([]:List UInt8).toArray from rfl,two_list,List.append_nil];exact numB_all hW) (by rw[show(#[]:Array UInt8)=([]:List UInt8).toArray from rfl,two_size];simp;omega) (by omega)).mono ?_
    rintro e3 w3 ⟨rfl,hb3⟩
    go_wp2
    go_ret2
    exact⟨ret_val (by rw[hrt.out,hW,List.append_nil];rfl),((Below_drewN _ (Below.refl _ _)).trans hb2).trans (hb3.mono hb2.size)⟩
   ·cases hP:numB P
    ·go_wp2_with fail
     refine(numeral_at ⟨W.toArray⟩ true hW _ (by show W.toArray.size≤_;simp;omega)).mono ?_
     rintro e2 w2 ⟨rfl,hb2⟩
     go_wp2_with fail
     refine(numeral_at ⟨P.toArray⟩ false hP _ (by show P.toArray.size≤_;simp;omega)).mono ?_
     rintro e3 w3 ⟨rfl,hb3⟩
     go_wp2
     go_ret2
     exact⟨ret_val (by rw[hrt.out,hW,hP];rfl),((Below_drewN _ (Below.refl _ _)).trans hb2).trans (hb3.mono hb2.size)⟩
    ·go_wp2_with fail
     refine(numeral_at ⟨W.toArray⟩ true hW _ (by show W.toArray.size≤_;simp;omega)).mono ?_
     rintro e2 w2 ⟨rfl,hb2⟩
     go_wp2_with fail
     refine(numeral_at ⟨P.toArray⟩ true hP _ (by show P.toArray.size≤_;simp;omega)).mono ?_
     rintro e3 w3 ⟨rfl,hb3⟩
     have hsum:((⟨W.toArray⟩:ByteArray).size:Int)+((⟨P.toArray⟩:ByteArray).size:Int)≤9223372036854775807:=by
      show((W.toArray.size:Nat):Int)+((P.toArray.size:Nat):Int)≤_;simp;omega
     go_wp2_with fail
     refine(told_at true _ (val (W++P)) P.length _ rfl _ (by rw[two_list]) (by rw[two_list,allD_append,numB_all hW,numB_all hP];rfl) (by rw[two_size];omega) (by omega)).mono ?_
     rintro e4 w4 ⟨rfl,hb4⟩
     go_wp2
     go_ret2
     exact⟨ret_val (by rw[hrt.out,hW,hP];rfl),(((Below_drewN _ (Below.refl _ _)).trans hb2).trans (hb3.mono hb2.size)).trans (hb4.mono (Nat.le_trans hb2.size hb3.size))⟩
theorem pre_iff(c:UInt8)(l:List UInt8):Lib.hasPrefix l [c]=true↔∃r,l=c::r:=by
 unfold Lib.hasPrefix
 cases l with
 |nil=>simp
 |cons a r=>simp[List.isPrefixOf];exact eq_comm
theorem readP_other(l:List UInt8)(h1:¬∃r,l=45::r)(h2:¬∃r,l=43::r):readP l=readT false l:=by
 unfold readP
 split
 ·exact absurd ⟨_,rfl⟩ h1
 ·exact absurd ⟨_,rfl⟩ h2
 ·rfl
theorem read_any(s:ByteArray)(w:World)(hE:Env w)(hs:s.size≤50000):
 Calls Tryz.prog 129 #[.string s] w fun e w'=>e=.returned (rv (readP s.data.toList))∧Below w.heap.size w w':=by
 by_cases h1:∃r,s.data.toList=45::r
 ·obtain⟨r,hr⟩:=h1
  have:=read_signed true s w hE hs (by have h3:s.data.toList.length=s.size:=rfl;rw[hr]at h3;simp at h3;omega) ((pre_iff _ _).2 ⟨r,hr⟩) (fun h=>by cases h)
  rw[hr]at this ⊢
  exact this
 ·by_cases h2:∃r,s.data.toList=43::r
  ·obtain⟨r,hr⟩:=h2
   have:=read_signed false s w hE hs (by have h3:s.data.toList.length=s.size:=rfl;rw[hr]at h3;simp at h3;omega) (Bool.eq_false_iff.2 (fun h=>h1 ((pre_iff _ _).1 h))) (fun _=>(pre_iff _ _).2 ⟨r,hr⟩)
   rw[hr]at this ⊢
   exact this
  ·rw[readP_other _ h1 h2]
   exact read_plain s w hE hs (Bool.eq_false_iff.2 (fun h=>h1 ((pre_iff _ _).1 h))) (Bool.eq_false_iff.2 (fun h=>h2 ((pre_iff _ _).1 h)))
def chk(l:List UInt8):Bool:=decide (l.length≤62)&&((readP l).2==0&&(readP l).1==l)
theorem chk_any(s:ByteArray)(w:World)(hE:Env w):
 Calls Tryz.prog 96 #[.string s] w fun e w'=>e=.returned (.bool (chk s.data.toList))∧Below w.heap.size w w':=by
 have hlen:s.data.toList.length=s.size:=rfl
 by_cases h:s.size≤62
 ·have hc:chk s.data.toList=((readP s.data.toList).2==0&&(readP s.data.toList).1==s.data.toList):=by unfold chk;rw[decide_eq_true (by omega),Bool.true_and]
  have hr:=read_any s w hE (by omega)
  generalize readP s.data.toList=p at hc hr
  replace hc:=Hd hc
  unfold rv at hr
  replace hr:=Hd hr
  have hi:(s.size:Int)≤62:=by omega
  clear hlen hE h
  obtain⟨t,e⟩:=p
  by_cases he:e=0
  ·subst he
   go_enter Tryz.func96,Tryz.ntmps96
   go_wp2_with (go_at_call 129;refine hr.out.mono ?_;rintro e1 w1 ⟨rfl,hb⟩)
   go_ret
   exact⟨ret_bool (by rw[hc.out];simp[Go.ByteArray.toList_eq]),hb⟩
  ·have he':(e==0)=false:=by simpa using he
   go_enter Tryz.func96,Tryz.ntmps96
   go_wp2_with (go_at_call 129;refine hr.out.mono ?_;rintro e1 w1 ⟨rfl,hb⟩)
   go_ret
   exact⟨ret_bool (by rw[hc.out];simp[he']),hb⟩
 ·have hc:chk s.data.toList=false:=by unfold chk;rw[decide_eq_false (by omega),Bool.false_and]
  rw[hc]
  have hi:(62:Int)<(s.size:Int):=by omega
  clear hlen hE h hc
  go_enter Tryz.func96,Tryz.ntmps96
  go_wp2
  go_ret
  exact⟨rfl,Below.refl _ _⟩
theorem trimR_trimR(l:List UInt8):trimR (trimR l)=trimR l:=by
 unfold trimR
 rw[List.reverse_reverse]
 congr 1
 generalize l.reverse=m
 induction m with
 |nil=>rfl
 |cons a m ih=>
  by_cases h:(a==48)=true
  ·rw[List.dropWhile_cons_of_pos (p:=fun x=>x==48) h];exact ih
  ·rw[List.dropWhile_cons_of_neg (p:=fun x=>x==48) h,List.dropWhile_cons_of_neg (p:=fun x=>x==48) h]
theorem frac_self(k r:Nat):frac (frac k r).length (val (frac k r))=frac k r:=by
 have h:=trimR_eq (frac_allD k r)
 rw[←h]
 exact trimR_trimR _
theorem hz_aux(N q v a b c B:Nat)(hdm:a * q+v * b=N)(ha:0<a)(hb:0<b)(hc:0<c)(hB:0<B):N=0↔q * B+v * c=0:=by
 subst hdm
 rw[Nat.add_eq_zero_iff,Nat.add_eq_zero_iff,Nat.mul_eq_zero,Nat.mul_eq_zero,Nat.mul_eq_zero,Nat.mul_eq_zero]
 omega
theorem lt_aux(q x A B:Nat)(hq:q<A)(hx:x<B):q * B+x<A * B:=by
 have:=Nat.mul_le_mul_right B (show q+1≤A from hq)
 rw[Nat.succ_mul]at this
 omega
theorem places(K N sc:Nat)(hK:(frac sc N).length≤K)(X:Nat)(hX:X=N / 10 ^ sc * 10 ^ K+val (frac sc N) * 10 ^ (K-(frac sc N).length)):
 X / 10 ^ K=N / 10 ^ sc∧frac K X=frac sc N∧(N=0↔X=0)∧∃y,X=N / 10 ^ sc * 10 ^ K+y∧y<10 ^ K:=by
 have p10:∀k,0<10 ^ k:=fun k=>Nat.pow_pos (by decide)
 have hself:=frac_self sc N
 have hval:=frac_val sc N
 have hlt:=val_lt (frac_allD sc N)
 generalize frac sc N=p at *
 have e1:=frac_more p.length (K-p.length) (val p)
 rw[hself,show p.length+(K-p.length)=K by omega]at e1
 have hp:val p * 10 ^ (K-p.length)<10 ^ K:=by
  have h:=Nat.mul_lt_mul_of_pos_right hlt (p10 (K-p.length))
  rwa [←Nat.pow_add,show p.length+(K-p.length)=K by omega]at h
 have hdm:=Nat.div_add_mod N (10 ^ sc)
 rw[←hval]at hdm
 have hz:=hz_aux N (N / 10 ^ sc) (val p) (10 ^ sc) (10 ^ (sc-p.length)) (10 ^ (K-p.length)) (10 ^ K) hdm (p10 _) (p10 _) (p10 _) (p10 _)
 refine⟨?_,?_,by rw[hX];exact hz,_,hX,hp⟩
 ·rw[hX,Nat.add_comm,Nat.add_mul_div_right _ _ (p10 K),Nat.div_eq_of_lt hp,Nat.zero_add]
 ·rw[hX,←frac_mod,Nat.add_comm,Nat.add_mul_mod_self_right,frac_mod,e1]
theorem told_canon(neg:Bool)(N sc:Nat)(t:List UInt8)(h:told neg N sc=some t):∃z,small z∧t=canon z:=by
 unfold told at h
 by_cases hc:40<(digs (N / 10 ^ sc)).length∨20<(frac sc N).length
 ·rw[if_pos hc]at h;cases h
 ·rw[if_neg hc]at h
  have hc1:(digs (N / 10 ^ sc)).length≤40:=by omega
  have hc2:(frac sc N).length≤20:=by omega
  obtain⟨d1,d2,d3,y,d4,d5⟩:=places 20 N sc hc2 _ rfl
  have hw:=(digs_lt _ _).1 hc1
  generalize N / 10 ^ sc * 10 ^ 20+val (frac sc N) * 10 ^ (20-(frac sc N).length)=X at *
  refine⟨signed neg X,?_,?_⟩
  ·unfold small top
   rw[signed_natAbs,d4,show 10 ^ 60=10 ^ 40 * 10 ^ 20 from rfl]
   exact lt_aux _ _ _ _ hw d5
  ·unfold canon
   have e:(neg&&decide (X≠0))=(neg&&decide (N≠0)):=by simp only[ne_eq,d3]
   rw[signed_natAbs,signed_neg,d1,d2,e]
   exact(Option.some.inj h).symm
theorem index_dot(W P:List UInt8)(h:allD W=true):Lib.index (W++46::P) [46]=(W.length:Int):=by
 induction W with
 |nil=>simp[Lib.index,List.isPrefixOf]
 |cons c W ih=>
  rw[allD_cons,Bool.and_eq_true]at h
  have hc:c≠46:=by intro e;subst e;exact absurd h.1 (by decide)
  have hp:[46].isPrefixOf (c::(W++46::P))=false:=by simp[List.isPrefixOf];exact fun e=>hc e.symm
  rw[List.cons_append,Lib.index,ih h.2,hp]
  have:((W.length:Int)==-1)=false:=by simp
  simp[this]
theorem cut_dot(W P:List UInt8)(h:allD W=true):Lib.cut (W++46::P) [46]=(W,P,true):=by
 unfold Lib.cut
 rw[index_dot W P h,if_pos (by omega)]
 simp
def orZero(l:List UInt8):List UInt8:=if l=[] then[48] else l
theorem orZero_allD{l:List UInt8}(h:allD l=true):allD (orZero l)=true:=by unfold orZero;split;decide;exact h
theorem orZero_numB{l:List UInt8}(h:allD l=true):numB (orZero l)=true:=by
 unfold numB;rw[orZero_allD h];unfold orZero;split
 ·rfl
 ·rename_i h0;cases l with
  |nil=>exact absurd rfl h0
  |cons c l=>rfl
theorem orZero_val (l : List UInt8) : val (orZero l) = val l := by unfold orZero; split; · rename_i h; subst h; rfl
                                                                   · rfl
theorem fmt_eq(neg:Bool)(w p:List UInt8):fmt neg w p=(if neg then[45] else[])++(orZero w++46::orZero p):=by
 unfold fmt orZero;simp
theorem readT_fmt(neg neg':Bool)(w p:List UInt8)(hw:allD w=true)(hp:allD p=true):
 readT neg (orZero w++46::orZero p)=toldP neg (val (orZero w++orZero p)) (orZero p).length:=by
 unfold readT
 rw[cut_dot _ _ (orZero_allD hw)]
 simp[orZero_numB hw,orZero_numB hp]
theorem readP_fmt(neg:Bool)(w p:List UInt8)(hw:allD w=true)(hp:allD p=true):readP (fmt neg w p)=toldP neg (val (orZero w++orZero p)) (orZero p).length:=by
 rw[fmt_eq]
 cases neg
 ·have hd:∃c r,orZero w=c::r∧isD c=true:=by
   have h1:=orZero_allD hw
   have h2:=orZero_numB hw
   generalize orZero w=l at *
   cases l with
   |nil=>exact absurd h2 (by decide)
   |cons c r=>rw[allD_cons,Bool.and_eq_true]at h1;exact⟨c,r,rfl,h1.1⟩
  rw[←readT_fmt false false w p hw hp]
  refine readP_other _ ?_ ?_
  ·rintro⟨r',hr⟩
   obtain⟨c,r,hc,hd⟩:=hd
   rw[hc]at hr
   simp at hr
   rw[hr.1]at hd;exact absurd hd (by decide)
  ·rintro⟨r',hr⟩
   obtain⟨c,r,hc,hd⟩:=hd
   rw[hc]at hr
   simp at hr
   rw[hr.1]at hd;exact absurd hd (by decide)
 ·rw[←readT_fmt true true w p hw hp];rfl
theorem amount(z:Int):val (orZero (digs (z.natAbs / 10 ^ 20))++orZero (frac 20 z.natAbs)) * 10 ^ (20-(orZero (frac 20 z.natAbs)).length)=z.natAbs∧(orZero (frac 20 z.natAbs)).length≤20:=by
 have h1:=frac_val 20 z.natAbs
 have h2:=frac_length 20 z.natAbs
 have h3:=digs_val (z.natAbs / 10 ^ 20)
 rw[val_append,orZero_val,orZero_val,h3]
 have hdm:=Nat.div_add_mod z.natAbs (10 ^ 20)
 generalize z.natAbs / 10 ^ 20=q at *
 generalize hp:frac 20 z.natAbs=p at *
 generalize z.natAbs % 10 ^ 20=r at *
 by_cases h:p=[]
 ·subst h
  have hr:r=0:=by simpa[val]using h1.symm
  subst hr
  have e:(orZero ([]:List UInt8)).length=1:=rfl
  rw[e]
  refine⟨?_,by decide⟩
  rw[show val ([]:List UInt8)=0 from rfl,←hdm,Nat.add_zero,Nat.add_zero,Nat.mul_assoc,Nat.mul_comm,←Nat.pow_add]
 ·have e:orZero p=p:=by unfold orZero;rw[if_neg h]
  rw[e]
  refine⟨?_,h2⟩
  rw[Nat.add_mul,h1,←hdm,Nat.mul_assoc,←Nat.pow_add,show p.length+(20-p.length)=20 by omega,Nat.mul_comm]
theorem readP_canon(z:Int)(hz:small z):readP (canon z)=(canon z,0):=by
 unfold canon
 rw[readP_fmt _ _ _ (digs_allD _) (frac_allD _ _)]
 obtain⟨h1,h2⟩:=amount z
 have ht:=told_le (decide (z<0)) (val (orZero (digs (z.natAbs / 10 ^ 20))++orZero (frac 20 z.natAbs))) _ h2
 rw[h1,told20,if_pos (show z.natAbs<top from hz),signed_self]at ht
 unfold toldP
 rw[ht];rfl
theorem canon_len(z:Int)(hz:small z):(canon z).length≤62:=by
 unfold canon
 rw[fmt_eq]
 have h1:=(digs_lt (z.natAbs / 10 ^ 20) 40).2 (by
  rw[Nat.div_lt_iff_lt_mul (by decide)];exact hz)
 have h2:=frac_length 20 z.natAbs
 have h3:∀l:List UInt8,(orZero l).length≤max 1 l.length:=by
  intro l;unfold orZero;split
  ·exact Nat.le_max_left _ _
  ·exact Nat.le_max_right _ _
 have h4:=h3 (digs (z.natAbs / 10 ^ 20))
 have h5:=h3 (frac 20 z.natAbs)
 have h6:∀b:Bool,(if b=true then[(45:UInt8)] else[]).length≤1:=by intro b;cases b<;>simp
 have h7:=h6 (decide (z<0))
 simp only[List.length_append,List.length_cons]
 generalize (orZero (digs (z.natAbs / 10 ^ 20))).length=a at *
 generalize (orZero (frac 20 z.natAbs)).length=b at *
 generalize (digs (z.natAbs / 10 ^ 20)).length=c at *
 generalize (frac 20 z.natAbs).length=d at *
 omega
theorem chk_canon(z:Int)(hz:small z):chk (canon z)=true:=by
 unfold chk;rw[readP_canon z hz,decide_eq_true (canon_len z hz)];simp
theorem toldP_zero(neg:Bool)(N sc:Nat)(t:List UInt8)(h:toldP neg N sc=(t,0)):∃z,small z∧t=canon z:=by
 unfold toldP at h
 cases ht:told neg N sc with
 |none=>rw[ht]at h;simp at h
 |some u=>rw[ht]at h;simp at h;subst h;exact told_canon neg N sc u ht
theorem readT_zero(neg:Bool)(r t:List UInt8)(h:readT neg r=(t,0)):∃z,small z∧t=canon z:=by
 unfold readT at h
 split at h
 ·exact toldP_zero _ _ _ _ h
 ·simp at h
theorem readP_zero(l t:List UInt8)(h:readP l=(t,0)):∃z,small z∧t=canon z:=by
 unfold readP at h
 split at h
 ·exact readT_zero _ _ _ h
 ·exact readT_zero _ _ _ h
 ·exact readT_zero _ _ _ h
theorem chk_iff(l:List UInt8):chk l=true↔∃z,small z∧l=canon z:=by
 constructor
 ·intro h
  unfold chk at h
  simp only[Bool.and_eq_true,beq_iff_eq]at h
  exact readP_zero l l (by rw[←h.2.1];exact Prod.ext h.2.2 rfl)
 ·rintro⟨z,hz,rfl⟩
  exact chk_canon z hz
def nval(l:List UInt8):Int:=match l with
 |45::r=>-((val ((Lib.cut r [46]).1++(Lib.cut r [46]).2.1) * 10 ^ (20-(Lib.cut r [46]).2.1.length):Nat):Int)
 |l=>((val ((Lib.cut l [46]).1++(Lib.cut l [46]).2.1) * 10 ^ (20-(Lib.cut l [46]).2.1.length):Nat):Int)
theorem nval_canon(z:Int):nval (canon z)=z:=by
 obtain⟨h1,_⟩:=amount z
 unfold canon
 rw[fmt_eq]
 by_cases h:z<0
 ·rw[decide_eq_true h]
  show nval (45::(orZero (digs (z.natAbs / 10 ^ 20))++46::orZero (frac 20 z.natAbs)))=z
  unfold nval
  simp only[cut_dot _ _ (orZero_allD (digs_allD (z.natAbs / 10 ^ 20))),h1]
  omega
 ·rw[decide_eq_false h]
  show nval (orZero (digs (z.natAbs / 10 ^ 20))++46::orZero (frac 20 z.natAbs))=z
  have h3:¬∃r,orZero (digs (z.natAbs / 10 ^ 20))++46::orZero (frac 20 z.natAbs)=45::r:=by
   rintro⟨r',hr⟩
   have a1:=orZero_allD (digs_allD (z.natAbs / 10 ^ 20))
   have a2:=orZero_numB (digs_allD (z.natAbs / 10 ^ 20))
   generalize orZero (digs (z.natAbs / 10 ^ 20))=l at *
   cases l with
   |nil=>exact absurd a2 (by decide)
   |cons c r=>
    simp at hr a1
    rw[hr.1]at a1;exact absurd a1.1 (by decide)
  unfold nval
  split
  ·rename_i r hr;exact absurd ⟨r,hr⟩ h3
  ·simp only[cut_dot _ _ (orZero_allD (digs_allD (z.natAbs / 10 ^ 20))),h1]
   omega
end Go.Proofs.YtcaeipdgbaligaaGreatDoor.dec
