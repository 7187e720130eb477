/- Texts TabMap, TabKey, TabCheck, one behind the other. -/
import Derived.Maps.OwnSet
import Derived.Laws.IdiomStrings
import Derived.Laws.BytesString
import Derived.Test.YtmpldjbdhbapbaaGreatDoorTabNmA
set_option linter.unusedSimpArgs false
set_option linter.unusedVariables false
set_option maxRecDepth 100000
set_option maxHeartbeats 4000000
namespace Go.Proofs.YtmpldjbdhbapbaaGreatDoor.tab
open Go.ChangeMaps Go.MapKept
open Go.Maps (Keyed IsMap Tidy string_keyed KeysOf fit_keys fit_apart)
open Go.RowKit kit
structure SMap(P:Program)(T K E:TypeId)(qe:IntKind):Prop where
 hT:P.underlying T=some (.map K E)
 hK:P.underlying K=some .string
 hE:P.underlying E=some (.int qe)
 hz:∀w,(zeroValue E).run P w=.ok (.int qe 0) w
theorem keyOf_text{P:Program}{k:TypeId}(hk:P.underlying k=some .string)(s:ByteArray)(hs:s.size≤maxLen):keyOf P k (.string s)=some (.string s.data.toList):=by
 simp[keyOf,hk,mapKey,Go.ByteArray.toList_eq,hs]
def MapS(P:Program)(K E:TypeId)(qe:IntKind)(w:World)(b n:Nat)(f:List UInt8→Option Int):Prop:=
 ∃D:DataW Unit,w.ownsMap P K (plainElem P E) b n D∧∀x:List UInt8,Maps.has D (.string x)=(f x).isSome∧D.atKey (.string x) (.lit (.int qe 0))=.lit (.int qe ((f x).getD 0))
def updS(f:List UInt8→Option Int)(k:List UInt8)(v:Int):List UInt8→Option Int:=fun x=>if x=k then some v else f x
section
variable{P:Program}{T K E:TypeId}{qe:IntKind}{w w':World}{b n:Nat}{f:List UInt8→Option Int}
theorem MapS.made(w:World):MapS P K E qe (w.alloc (.map #[] 0)) w.heap.size 0 (fun _=>none):=
 ⟨.map [],World.ownsMap_made w P K _,fun x=>⟨rfl,rfl⟩⟩
theorem MapS.kept{row:Option Nat}(h:MapS P K E qe w b n f)(hg:w.grownBy w' row)(hne:some b≠row):MapS P K E qe w' b n f:=by
 obtain⟨D,h1,h2⟩:=h
 exact⟨D,h1.kept hg hne,h2⟩
theorem MapS.same(h:MapS P K E qe w b n f)(hb:w'.heap[b]? = w.heap[b]?):MapS P K E qe w' b n f:=by
 obtain⟨D,⟨es,clock,h0,r⟩,h2⟩:=h
 exact⟨D,⟨es,clock,hb.trans h0,r⟩,h2⟩
theorem MapS.lt(h:MapS P K E qe w b n f):b<w.heap.size:=by
 obtain⟨D,h1,_⟩:=h
 exact h1.lt
theorem MapS.isMap(h:MapS P K E qe w b n f):∃es clock,w.heap[b]? = some (.map es clock):=by
 obtain⟨D,⟨es,clock,h0,_⟩,_⟩:=h
 exact⟨es,clock,h0⟩
end
section
variable{P:Program}{T K E:TypeId}{qe:IntKind}(hm:SMap P T K E qe)(w:World){ops:Array Oper}{rest:List Oper}{o:Oper}{a:Act}{Q:Exit→Act→World→Prop}
include hm
theorem wpList_mapS(hg:o.guard=none)(m x:Operand)(hop:o.op=Op.lookup T m x false)(b n:Nat)(f:List UInt8→Option Int)(ha:a.eval m=.map (some b))(h:MapS P K E qe w b n f)(key:ByteArray)(hks:key.size≤maxLen)(hx:a.eval x=.string key)(r:Option Int)(hr:f key.data.toList=r)
 (hK:wpList P ops Q rest (a.put o.dst (.int qe (r.getD 0))) w):wpList P ops Q (o::rest) a w:=by
 subst hr
 obtain⟨D,hown,hD⟩:=h
 obtain⟨h1,h2⟩:=hD key.data.toList
 refine wpList_lookup_own_int w hg m x T hop K E qe (string_keyed hm.hK) hm.hT hm.hE (hm.hz w) b n D ha hown _ _ hx (keyOf_text hm.hK key hks) ?_
 intro c hat hwc
 rw[h2]at hat
 obtain rfl:(f key.data.toList).getD 0=c:=by
  injection hat with hat
  injection hat
 exact hK
theorem wpList_mapS_put(hg:o.guard=none)(m x v:Operand)(hop:o.op=Op.mapUpdate T m x v)(b n:Nat)(f:List UInt8→Option Int)(ha:a.eval m=.map (some b))(h:MapS P K E qe w b n f)(hn:n<maxLen)
 (key:ByteArray)(hks:key.size≤maxLen)(val:Int)(hx:a.eval x=.string key)(hv:a.eval v=.int qe val)(hwv:(Lit.int qe val).wf=true)
 (hK:∀w',MapS P K E qe w' b (n+1) (updS f key.data.toList val)→w.grownBy w' (some b)→wpList P ops Q rest (a.put o.dst undef) w'):wpList P ops Q (o::rest) a w:=by
 obtain⟨D,hown,hD⟩:=h
 have hkl:=keyOf_text hm.hK key hks
 refine wpList_mapUpdate_own w hg m x v T hop K E (string_keyed hm.hK) hm.hT _ b n D ha hown hn _ _ _ hx hv hkl _ [] (plainElem_int hm.hE hwv) ?_
 intro w' hown' hgr
 refine hK w' ⟨_,hown',fun y=>?_⟩ hgr
 by_cases hyk:y=key.data.toList
 ·subst hyk
  unfold updS
  rw[if_pos rfl]
  exact⟨Maps.has_put_same hown.isMap ((string_keyed hm.hK).key hkl) _,Maps.atKey_put_same hown.isMap ((string_keyed hm.hK).key hkl) _ _⟩
 ·have hne:Lit.string y≠Lit.string key.data.toList:=fun e=>hyk (by injection e)
  unfold updS
  rw[if_neg hyk,Maps.has_put_other hne,Maps.atKey_put_other hne]
  exact hD y
end
open Go.ChangeShapes Go.WideShapes Go.ChangeAt dec val
theorem conv_own{w:World}{B:Nat}{v:Value}{L:List UInt8}(h:w.ownsRow B 5 1 v L.length (bytesV L)):(convert 108 9 v).run Tryz.prog w=.ok (.string ⟨L.toArray⟩) w:=by
 rcases id h.2 with⟨hv,hn⟩|⟨g,cap,cur,hv,hr⟩
 ·subst hv
  obtain rfl:L=[]:=List.eq_nil_of_length_eq_zero hn
  rw[run_convert_bytes_string w 108 9 5 none 0 0 Tryz.underlying108 Tryz.underlying5 Tryz.underlying9]
  rfl
 ·subst hv
  refine run_convert_bytes_back (P:=Tryz.prog) w 108 9 5 ⟨g,0,none⟩ cap L Tryz.underlying108 Tryz.underlying5 Tryz.underlying9 ?_
  intro j hj
  have h2:=h.cells rfl j (.int .u8 (L[j].toNat:Int)) (by simp[bytesV,hj])
  exact h2
theorem encV_ne(v:V):0<(encV v).length:=by
 cases v with
 |mk k b n t x l=>rw[encV];simp
theorem encV_of{l:List V}{k:Nat}(h:k<l.length):(encL (l.take (k+1))).length≤(encL l).length∧encL (l.take (k+1))=encL (l.take k)++encV l[k]:=by
 refine⟨encL_take_le l (k+1),encL_take l k h⟩
theorem key_any(N:Nat)(hN:N≤9223372036854775807)(w:World)(hE:Env w)(s:Value)(l:List V)(hs:LA w N s l)(hm:∀v∈l,mayV v=true)(hlen:(encL l).length≤10000000):
 Calls Tryz.prog 31 #[s] w fun e w'=>e=.returned (.string ⟨(encL l).toArray⟩)∧Below w.heap.size w w':=by
 obtain⟨i0,hi,hz0,hz1,hz2⟩:=info_parts Tryz.infoB
 replace hi:=Hd hi
 replace hz0:=Hd hz0
 replace hz1:=Hd hz1
 replace hz2:=Hd hz2
 obtain⟨ao,cap,rfl⟩:=hs.form6
 have hNl:=(hs.elems _ _ _ rfl).1
 have hli:(l.length:Int)≤9223372036854775807:=by omega
 have ha:=Hd hs
 replace hE:=Hd hE
 replace hm:=Hd hm
 clear hs
 go_enter Tryz.func31,Tryz.ntmps31
 go_wp2
 go_loopw [3,10] (fun o i wr=>∃k:Nat,k≤l.length∧i=.int .i64 (k:Int)∧Hid (BW w w.heap.size o (encL (l.take k)) wr)) (fun _ i _=>l.length-(intOf i).toNat)
 case atStart=>exact⟨0,by omega,rfl,Hd (BW.start w)⟩
 case round=>
  obtain⟨k,hk,rfl,hW⟩:=hrel
  obtain⟨w0,rfl⟩:∃w0:World,w0=wr:=⟨_,rfl⟩
  by_cases hlt:k<l.length
  ·have hki:(k:Int)<(l.length:Int):=by omega
   have hk1:=Hd (show k+1≤l.length from hlt)
   obtain⟨b1,off,k1,bo,n1,t1,x1,l1,aoE,capE,rfl,he,hr,hok,hsl⟩:=la_at (ha.out.stay hW.out.below) k hlt
   obtain⟨hl1,hl2⟩:=encV_of hlt
   have hmv:=hm.out _ (List.getElem_mem hlt)
   rw[he]at hl2 hmv
   have hne:=encV_ne (.mk k1 bo n1 t1 x1 l1)
   have hlv:(encV (.mk k1 bo n1 t1 x1 l1)).length≤10000000:=by rw[hl2,List.length_append]at hl1;omega
   have hlk:(encL (l.take k)).length≤10000000:=by rw[hl2,List.length_append]at hl1;omega
   obtain⟨x0,x1a,x2,x3,x4,x5⟩:=hr.six
   have hal:Below w0.heap.size w0 (w0.alloc (.cells #[.int .i64 k1,.bool bo,.int .i64 n1,.string t1,.string x1,.slice aoE l1.length capE] 34)):=(Below.refl _ _).alloc (Nat.le_refl _) _
   have hen:=encode_call N hN (w0.alloc (.cells #[.int .i64 k1,.bool bo,.int .i64 n1,.string t1,.string x1,.slice aoE l1.length capE] 34)) (hE.out.below (hW.out.below.trans (hal.mono hW.out.below.size))) k1 bo n1 hok.1 hok.2.1 t1 x1 _ l1 (hsl.stay hal) hok.2.2.1 hok.2.2.2 hlv
   unfold encR at hen
   rw[hmv]at hen
   simp only[if_true]at hen
   unfold agg6 at hen
   generalize encV (.mk k1 bo n1 t1 x1 l1)=ev at *
   generalize hE2:encL (l.take (k+1))=E2 at *
   replace hE2:=Hd hE2
   generalize encL (l.take k)=E1 at *
   have hE:=Blk.new w0 #[.int .i64 k1,.bool bo,.int .i64 n1,.string t1,.string x1,.slice aoE l1.length capE] 34
   have y0:=hE.cell 0 rfl
   have y1:=hE.cell 1 rfl
   have y2:=hE.cell 2 rfl
   have y3:=hE.cell 3 rfl
   have y4:=hE.cell 4 rfl
   have y5:=hE.cell 5 rfl
   replace hen:=Hd hen
   replace hal:=Hd hal
   replace hl2:=Hd hl2
   clear hr he hsl hlt hE hmv hok
   go_wp2_with fail
   refine hen.out.mono ?_
   rintro e w5 ⟨v5,rfl,hB5⟩
   have hW5:=hW.out.on hW.out.below.size (hal.out.trans (hB5.below.mono hal.out.size))
   obtain⟨g5,c5,rfl,hnews⟩:∃g c,v5=.slice (some ⟨g,0,none⟩) ev.length c∧∀j u,(bytesV ev)[j]? = some u→w5.cell? ((⟨g,0,none⟩:Addr).add j)=some u:=by
    rcases hB5.own.2 with⟨hv,hn⟩|⟨g,c,cur,hv,_⟩
    ·omega
    ·subst hv
     exact⟨g,c,rfl,hB5.own.cells rfl⟩
   have hown:=hW5.own
   have hb5:=hW5.below.size
   have hnl:(bytesV ev).length=ev.length * 1:=by simp[bytesV]
   have hone:∀u∈bytesV ev,u.oneCell'=true:=fun u hu=>by obtain⟨x,-,rfl⟩:=List.mem_map.1 hu;rfl
   replace hW5:=Hd hW5
   clear hW hen hal hB5
   go_wp2_with (at_builtin;refine wpList_append_own _ rfl _ _ 108 rfl w.heap.size 5 i0 (.int .u8 0) 1 1 Tryz.underlying108 hi.out hz0.out hz1.out hz2.out rfl (by decide) u3 E1.length (bytesV E1) rfl hown ⟨g5,0,none⟩ ev.length c5 (bytesV ev) rfl hnl hnews hone ?ka ?kb hb5 ?kc)
   case ka=>simp only[maxLen];omega
   case kb=>omega
   case kc=>
    intro v7 w7 h1 h2 _
    have h7:=hW5.out.grown0 hb5 h1 h2
    rw[←hl2.out]at h7
    replace h7:=Hd h7
    clear h1 h2 hown hnews hW5
    go_wp2
    go_roundw
    case rel=>exact⟨k+1,hk1.out,by go_num,by rw[hE2.out];exact h7⟩
    case measure=>have:=hk1.out;simp[intOf];omega
  ·have hki:¬(k:Int)<(l.length:Int):=by omega
   obtain rfl:k=l.length:=by omega
   rw[List.take_length]at hW
   have hcv:=conv_own hW.out.own
   go_wp2
   go_ret
   exact⟨rfl,hW.out.below⟩
open hyp (RowA TextsA CellsStay stay_of_below textsV textsV_length own_row)
theorem each_any(N:Nat)(hN:N≤9223372036854775807)(w:World)(hE:Env w)(k:Int)(b:Bool)(n:Int)(t x:ByteArray)(s:Value)(l:List V)(ha:LA w N s l)(ht:t.size≤N)(hx:x.size≤N):
 Calls Tryz.prog 57 #[agg6 k b n t x s] w fun e w'=>e=.returned (.bool (!mayV (.mk k b n t x l)))∧Below w.heap.size w w':=by
 have hal:Below w.heap.size w (w.alloc (.cells #[.int .i64 k,.bool b,.int .i64 n,.string t,.string x,s] 34)):=(Below.refl _ _).alloc (Nat.le_refl _) _
 have hq:=Blk.new w #[.int .i64 k,.bool b,.int .i64 n,.string t,.string x,s] 34
 have hcall:=val.check_any N hN (w.alloc (.cells #[.int .i64 k,.bool b,.int .i64 n,.string t,.string x,s] 34)) (hE.below hal) k b n t x s l (ha.stay hal) ht hx
 obtain⟨ao,cap,rfl⟩:=ha.form6
 generalize mayV (.mk k b n t x l)=q at *
 have x0:=hq.cell 0 rfl
 have x1:=hq.cell 1 rfl
 have x2:=hq.cell 2 rfl
 have x3:=hq.cell 3 rfl
 have x4:=hq.cell 4 rfl
 have x5:=hq.cell 5 rfl
 unfold agg6 at hcall ⊢
 replace hcall:=Hd hcall
 replace hal:=Hd hal
 clear ha hq
 go_enter Tryz.func57,Tryz.ntmps57
 go_wp2_with fail
 refine hcall.out.mono ?_
 rintro e w2 ⟨rfl,hb2⟩
 have hb3:=Hd (hal.out.trans (hb2.mono hal.out.size))
 clear hcall hb2 x0 x1 x2 x3 x4 x5
 go_wp2
 go_ret
 exact⟨rfl,hb3.out⟩
theorem indexF_any(N:Nat)(hN:N≤9223372036854775807)(w:World)(hE:Env w)(s0:Value)(l:List V)(hs0:LA w N s0 l):
 Calls Tryz.prog 72 #[s0,.func (.func 57) #[] #[]] w fun e w'=>∃i:Int,e=.returned (.int .i64 i)∧decide (0≤i)=!l.all mayV∧Below w.heap.size w w':=by
 obtain⟨ao,cap,rfl⟩:=hs0.form6
 obtain⟨hl,ha⟩:=hs0.elems _ _ _ rfl
 replace ha:=Hd ha
 replace hE:=Hd hE
 have hli:(l.length:Int)≤9223372036854775807:=by omega
 clear hs0
 go_enter Tryz.func72,Tryz.ntmps72
 go_wp2
 go_loopw [8] (fun v wr=>∃k:Nat,k≤l.length∧v=.int .i64 k∧Hid (Below w.heap.size w wr)∧Hid (∀j (hj:j<l.length),j<k→mayV l[j]=true)) (fun v _=>l.length-(intOf v).toNat)
 case atStart=>exact⟨0,by omega,rfl,Below.refl _ _,fun j _ h=>by omega⟩
 case round =>
  obtain⟨k,hk,rfl,hb,hall⟩:=hrel
  by_cases hlt:k<l.length
  ·have hki:(k:Int)<(l.length:Int):=by omega
   have hel:=(ha.out k hlt).stay hb.out
   have hE1:=hE.out.below hb.out
   obtain⟨v,hv⟩:∃v,l[k]=v:=⟨_,rfl⟩
   rw[hv,Nat.mul_comm 6 k]at hel
   replace hv:=Hd hv
   cases hel with
   | mk b off o k1 bo n t x l1 s hr hk1 hn ht hx hs =>
    have x0:=hr.c0
    have x1:=hr.c1
    have x2:=hr.c2
    have x3:=hr.c3
    have x4:=hr.c4
    have x5:=hr.c5
    have hcl:=each_any N hN wr hE1 k1 bo n t x s l1 hs ht hx
    unfold agg6 at hcl
    replace hcl:=Hd hcl
    have hR:∀c,mayV (.mk k1 bo n t x l1)=c→(c=false→l.all mayV=false)∧(c=true→∀j (hj:j<l.length),j<k+1→mayV l[j]=true):=fun c h=>by
     rw[←hv.out]at h
     refine⟨fun e=>?_,fun e j hj hjk=>?_⟩
     ·rw[List.all_eq_false]
      exact⟨l[k],List.getElem_mem hlt,by rw[h,e];decide⟩
     ·rcases Nat.lt_or_ge j k with h1|h1
      ·exact hall.out j hj h1
      ·obtain rfl:j=k:=by omega
       rw[h];exact e
    obtain⟨c,hcc⟩:∃c,mayV (.mk k1 bo n t x l1)=c:=⟨_,rfl⟩
    rw[hcc]at hcl
    have hR2:=hR c hcc
    clear hR hcc hall hr hs hk1 hn ht hx hv
    go_wp2_with fail
    refine hcl.out.mono ?_
    rintro e w2 ⟨rfl,hb2⟩
    have hb3:=Hd (hb.out.trans (hb2.mono hb.out.size))
    clear hb2 hcl
    cases c
    ·have hf:=hR2.1 rfl
     clear hR2
     go_wp2
     go_ret
     exact⟨(k:Int),rfl,by rw[hf];simp,hb3.out⟩
    ·have hf:=Hd (hR2.2 rfl)
     clear hR2
     go_wp2
     go_roundw
     case rel=>exact⟨k+1,by omega,by go_num,hb3,hf⟩
     case measure=>simp[intOf];omega
  ·have hki:¬(k:Int)<(l.length:Int):=by omega
   have hf:l.all mayV=true:=by
    rw[List.all_eq_true]
    intro v hv
    obtain⟨j,hj,rfl⟩:=List.getElem_of_mem hv
    exact hall.out j hj (by omega)
   replace hf:=Hd hf
   clear hall
   go_wp2
   go_ret
   exact⟨-1,rfl,by rw[hf.out];decide,hb.out⟩
theorem containsF_any(N:Nat)(hN:N≤9223372036854775807)(w:World)(hE:Env w)(s0:Value)(l:List V)(hs0:LA w N s0 l):
 Calls Tryz.prog 56 #[s0,.func (.func 57) #[] #[]] w fun e w'=>e=.returned (.bool (!l.all mayV))∧Below w.heap.size w w':=by
 have hi:=indexF_any N hN w hE s0 l hs0
 replace hi:=Hd hi
 clear hs0 hE
 go_enter Tryz.func56,Tryz.ntmps56
 go_wp2_with fail
 refine hi.out.mono ?_
 rintro e w2 ⟨i,rfl,hi2,hb2⟩
 go_wp2
 go_ret
 exact⟨rfl,hb2⟩
theorem may_no{t:Tab}{j:Nat}(hj:j<t.rows.length)(h:rowB t.vars.length t.rows[j]=false):mayT t=false:=by
 apply Bool.eq_false_iff.2
 intro h2
 rw[(may_rows h2).2 _ (List.getElem_mem hj)]at h
 cases h
theorem checkT_any(N:Nat)(hN:N≤9223372036854775807)(w:World)(hE:Env w)(v:Value)(t:Tab)(hT:TabA w N v t)(hv64:t.vars.length≤1048576)(hr64:t.rows.length≤1048576):
 Calls Tryz.prog 29 #[v] w fun e w'=>e=.returned (.bool (mayT t))∧Below w.heap.size w w':=by
 obtain⟨vv,rv,rfl,hV,hR⟩:=hT.ex
 have hal:Below w.heap.size w (w.alloc (.cells #[vv,rv] 25)):=(Below.refl _ _).alloc (Nat.le_refl _) _
 have hq:=Blk.new w #[vv,rv] 25
 have hnm:=names_any (w.alloc (.cells #[vv,rv] 25)) (hE.below hal) vv t.vars (TextsA.below hV hal) hv64
 obtain⟨av,cv,rfl,-⟩:=hV.form
 obtain⟨ar,cr,rfl,hlc,hrc⟩:=(hR.stay hal).form
 obtain⟨q,hqd⟩:∃q,mayT t=q:=⟨_,rfl⟩
 have hq1:Hid (namesB t.vars=false→q=false):=Hd fun h=>by rw[←hqd];unfold mayT;rw[h];rfl
 have hq2:Hid (∀j (hj:j<t.rows.length),rowB t.vars.length t.rows[j]=false→q=false):=Hd fun j hj h=>by rw[←hqd];exact may_no hj h
 have hq3:Hid (namesB t.vars=true→(∀j (hj:j<t.rows.length),rowB t.vars.length t.rows[j]=true)→q=true):=Hd fun h1 h2=>by
  rw[←hqd]
  unfold mayT
  rw[h1,Bool.true_and,List.all_eq_true]
  intro r hr
  obtain⟨j,hj,rfl⟩:=List.getElem_of_mem hr
  exact h2 j hj
 rw[hqd]
 have x0:=hq.cell 0 rfl
 have x1:=hq.cell 1 rfl
 have hE1:=Hd (hE.below hal)
 have hal2:=Hd hal
 replace hrc:=Hd hrc
 replace hnm:=Hd hnm
 generalize namesB t.vars=nb at *
 clear hal hT hV hR hE hq hqd hlc
 go_enter Tryz.func29,Tryz.ntmps29
 go_wp2_with fail
 generalize w.alloc (.cells #[.slice av t.vars.length cv,.slice ar t.rows.length cr] 25)=w1 at *
 refine hnm.out.mono ?_
 rintro e w2 ⟨rfl,hb2⟩
 have hB2:=Hd (hal2.out.trans (hb2.mono hal2.out.size))
 have hb2h:=Hd hb2
 replace x0:=sB hb2 x0
 replace x1:=sB hb2 x1
 clear hnm hb2
 cases nb with
 |false=>
  have hqf:=Hd (hq1.out rfl)
  go_wp2
  go_ret
  exact⟨ret_bool hqf.out.symm,hB2.out⟩
 | true =>
  have hq4:=Hd (hq3.out rfl)
  clear hq1 hq3
  go_wp2
  have y0:=Hd x0
  clear x0 x1
  go_loopw [12] (fun i wr=>∃k:Nat,k≤t.rows.length∧i=.int .i64 (k:Int)∧Hid (Below w2.heap.size w2 wr)∧Hid (∀j (hj:j<t.rows.length),j<k→rowB t.vars.length t.rows[j]=true)) (fun i _=>t.rows.length-(intOf i).toNat)
  case atStart=>exact⟨0,by omega,rfl,Hd (Below.refl _ _),Hd fun j _ h=>by omega⟩
  case round=>
   obtain⟨k,hk,rfl,hb,hall⟩:=hrel
   by_cases hlt:k<t.rows.length
   ·have hki:(k:Int)<(t.rows.length:Int):=by omega
    have hk1:=Hd (show k+1≤t.rows.length from hlt)
    have hb12:=hb2h.out.trans (hb.out.mono hb2h.out.size)
    obtain⟨b,off,a,c,rfl,hbl,hcell,hla⟩:=hrc.out k hlt
    replace hcell:=sB hb12 hcell
    have z0:=sB hb.out y0.out
    have hcf:=containsF_any N hN wr (hE1.out.below hb12) _ _ (hla.stay hb12)
    have hno:Hid ((decide (t.rows[k].length=t.vars.length)&&t.rows[k].all mayV)=false→q=false):=Hd fun h=>hq2.out k hlt h
    have hall2:Hid ((decide (t.rows[k].length=t.vars.length)&&t.rows[k].all mayV)=true→∀j (hj:j<t.rows.length),j<k+1→rowB t.vars.length t.rows[j]=true):=Hd fun h j hj hjk=>by
     by_cases he:j=k
     ·subst he;exact h
     ·exact hall.out j hj (by omega)
    clear hall hla hb12
    generalize t.rows[k]=r at *
    generalize r.all mayV=m at *
    replace hcf:=Hd hcf
    by_cases hlen:r.length=t.vars.length
    ·have hli:((r.length:Int) != (t.vars.length:Int))=false:=by rw[hlen];simp
     rw[decide_eq_true hlen]at hno hall2
     replace hlen:=Hd hlen
     go_wp2_with fail
     refine hcf.out.mono ?_
     rintro e w4 ⟨rfl,hb4⟩
     have hb5:=Hd (hb.out.trans (hb4.mono hb.out.size))
     clear hb4 hcf
     cases m with
     |true=>
      have hall3:=Hd (hall2.out rfl)
      go_wp2
      go_roundw
      case rel=>exact⟨k+1,hk1.out,by go_num,hb5,hall3⟩
      case measure=>have:=hk1.out;simp[intOf];omega
     |false=>
      have hqf:=Hd (hno.out rfl)
      have hfin:=Hd (hB2.out.trans (hb5.out.mono hB2.out.size))
      go_wp2
      go_ret
      exact⟨ret_bool hqf.out.symm,hfin.out⟩
    ·have hli:((r.length:Int) != (t.vars.length:Int))=true:=by simp;omega
     have hqf:=Hd (hno.out (by rw[decide_eq_false hlen];rfl))
     have hfin:=Hd (hB2.out.trans (hb.out.mono hB2.out.size))
     clear hno hall2 hcf
     go_wp2
     go_ret
     exact⟨ret_bool hqf.out.symm,hfin.out⟩
   ·have hki:¬(k:Int)<(t.rows.length:Int):=by omega
    obtain rfl:k=t.rows.length:=by omega
    have hqt:=Hd (hq4.out (fun j hj=>hall.out j hj hj))
    have hfin:=Hd (hB2.out.trans (hb.out.mono hB2.out.size))
    clear hall
    go_wp2
    go_ret
    exact⟨ret_bool hqt.out.symm,hfin.out⟩
end Go.Proofs.YtmpldjbdhbapbaaGreatDoor.tab
