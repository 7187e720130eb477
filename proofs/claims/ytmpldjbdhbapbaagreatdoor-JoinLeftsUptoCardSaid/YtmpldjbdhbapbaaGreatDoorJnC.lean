/- Texts JnNearP, JnConcat, JnNear, JnPush, JnWith, JnNearQ, JnDo, JnSome1, JnKnown, one behind the other. -/
import Derived.Test.YtmpldjbdhbapbaaGreatDoorJnB
import Derived.Lib.AppendZerosOnto
import Derived.Deep.OwnRows
import Derived.Test.YtmpldjbdhbapbaaGreatDoorJnShelf
import Derived.Sort.OwnSortedInts
set_option linter.unusedSimpArgs false
set_option linter.unusedVariables false
set_option maxRecDepth 100000
set_option maxHeartbeats 4000000
namespace Go.Proofs.YtmpldjbdhbapbaaGreatDoor.tab
open Go.ChangeShapes Go.WideShapes Go.ChangeAt Go.RowKit kit dec val
def intsN(l:List Nat):List Int:=l.map (Nat.cast:Nat→Int)
theorem intsN_val(l:List Nat):(intsN l).map (Value.int .i64)=numsN l:=by
 unfold intsN numsN
 rw[List.map_map]
 rfl
def nearL(rows:List (List V))(ks:List Nat)(k:List UInt8):List Nat:=(List.range rows.length).filter fun i=>decide (keyJ (rows.getD i []) ks=some k)||(keyJ (rows.getD i []) ks).isNone
def nearZ(rows:List (List V))(ks:List Nat)(key:Option (List UInt8)):List Nat:=
 match key with
 |none=>List.range rows.length
 |some k=>nearL rows ks k
theorem filter_or_perm{α:Type}(p q:α→Bool)(h:∀x,p x=true→q x=false):∀l:List α,(l.filter p++l.filter q).Perm (l.filter fun x=>p x||q x)
 |[]=>.refl _
 | x :: l => by
  have ih:=filter_or_perm p q h l
  cases hp:p x with
  |true=>
   rw[List.filter_cons_of_pos hp,List.filter_cons_of_neg (by simp[h x hp]),List.filter_cons_of_pos (by simp[hp])]
   exact ih.cons x
  | false =>
   cases hq:q x with
   |true=>
    rw[List.filter_cons_of_neg (by simp[hp]),List.filter_cons_of_pos hq,List.filter_cons_of_pos (by simp[hq])]
    exact List.perm_middle.trans (ih.cons x)
   |false=>
    rw[List.filter_cons_of_neg (by simp[hp]),List.filter_cons_of_neg (by simp[hq]),List.filter_cons_of_neg (by simp[hp,hq])]
    exact ih
theorem near_perm(rows:List (List V))(ks:List Nat)(k:List UInt8):(gK rows ks rows.length k++lK rows ks rows.length).Perm (nearL rows ks k):=by
 unfold gK lK nearL
 refine filter_or_perm _ _ (fun x hx=>?_) _
 rw[of_decide_eq_true hx]
 rfl
theorem near_sorted(rows:List (List V))(ks:List Nat)(k:List UInt8):(intsN (gK rows ks rows.length k++lK rows ks rows.length)).mergeSort (fun x y=>decide (x≤y))=intsN (nearL rows ks k):=by
 refine List.Perm.eq_of_pairwise (le:=fun x y:Int=>decide (x≤y)=true) ?_ (List.pairwise_mergeSort ?_ ?_ _) ?_ ((List.mergeSort_perm _ _).trans ((near_perm rows ks k).map _))
 ·intro a b _ _ h1 h2
  simp only[decide_eq_true_eq]at h1 h2
  omega
 ·intro a b c h1 h2
  simp only[decide_eq_true_eq]at h1 h2 ⊢
  omega
 ·intro a b
  simp only[Bool.or_eq_true,decide_eq_true_eq]
  omega
 ·unfold intsN nearL
  rw[List.pairwise_map]
  refine(List.pairwise_lt_range.filter _).imp ?_
  intro a b h
  simp only[decide_eq_true_eq]
  omega
theorem near_len(rows:List (List V))(ks:List Nat)(key:Option (List UInt8)):(nearZ rows ks key).length≤rows.length:=by
 cases key with
 |none=>simp[nearZ]
 |some k=>exact Nat.le_trans (List.length_filter_le _ _) (by simp)
theorem near_lt{rows:List (List V)}{ks:List Nat}{key:Option (List UInt8)}{i:Nat}(h:i∈nearZ rows ks key):i<rows.length:=by
 cases key with
 |none=>exact List.mem_range.1 h
 |some k=>exact List.mem_range.1 (List.mem_filter.1 h).1
theorem gl_len(rows:List (List V))(ks:List Nat)(k:List UInt8):(gK rows ks rows.length k++lK rows ks rows.length).length≤rows.length:=by
 rw[(near_perm rows ks k).length_eq]
 exact Nat.le_trans (List.length_filter_le _ _) (by simp)
open hyp (RowA TextsA CellsStay stay_of_below textsV textsV_length own_row OW)
theorem wpList_append_run{P:Program}{w:World}{ops:Array Oper}{rest:List Oper}{o:Oper}{a:Act}{Q:Exit→Act→World→Prop}(hgd:o.guard=none)(s x:Operand)(t tn:TypeId)
 (ho:o.op=.call { callee:=.builtin .append,args:=#[s,x],argTypes:=#[t,tn] })(v v' y:Value)(w':World)(hs:a.eval s=v)(hx:a.eval x=y)(hr:(Builtin.append_ #[t,tn] o.type #[v,y]).run P w=.ok v' w')
 (h:wpList P ops Q rest (a.put o.dst v') w'):wpList P ops Q (o::rest) a w:=by
 refine wpList_plain hgd fun K hK=>?_
 unfold Oper.wp execOp
 simp only[ho,resolve,invoke,builtin,Sem.run_bind,Sem.run_pure,Result.andThen_ok,List.map_toArray,List.map_cons,List.map_nil,hs,hx,hr]
 exact hK _ _ h
theorem run_append_none{P:Program}(w:World)(B:Nat)(t ty e:TypeId)(i:TypeInfo)(size:Nat)(ht:P.underlying t=some (.slice e))(hi:P.info? e=some i)(v:Value)(n:Nat)(xs:List Value)(hown:w.ownsRow B e size v n xs)(c:Nat):
 (Builtin.append_ #[t,t] ty #[v,.slice none 0 c]).run P w=.ok v w:=by
 rcases hown.2 with⟨rfl,rfl⟩|⟨g,cap,cur,rfl,_,hg,hn,_⟩
 ·simp[Builtin.append_,run_underlying ht,sizeOf,typeInfo,hi,Builtin.lenOf,Builtin.firstCells,loadCells,loadCellsFrom]
 ·simp[Builtin.append_,run_underlying ht,sizeOf,typeInfo,hi,Builtin.lenOf,Builtin.firstCells,hn,storeCells]
theorem growI_nil(n:Nat)(hn:n≤4194304)(w:World):
 Calls Tryz.prog 77 #[.slice none 0 0,.int .i64 n] w fun e w'=>∃v,e=.returned v∧Below w.heap.size w w'∧∀B,B≤w.heap.size→w'.ownsRow B 3 1 v 0 []:=by
 obtain⟨i0,hi,hz,hz2,hz3⟩:=info_parts infoInt
 rcases Nat.eq_zero_or_pos n with rfl|hpos
 ·go_enter Tryz.func77,Tryz.ntmps77
  go_wp2
  go_ret
  exact⟨_,rfl,Below.refl _ _,fun B _=>World.ownsRow_nil _ _ _ _⟩
 ·have hni:0<(n:Int):=by omega
  have hcap:=grownCap_ge w n 0 3
  have hcm:=grownCap_le_maxLen w n 0 3 (by unfold maxLen;omega)
  have hap:=Lib.run_append_grow_zeros (P:=Tryz.prog) w 52 3 52 3 i0 (.int .i64 0) .i64 .i64 Tryz.underlying52 Tryz.underlying3 hi hz none 0 0 [] (run_firstCells_none _ _ _ _ _) n hpos (by omega) (by omega) (by omega) (by rw[hz3];omega) (growslice_fits (by omega) (by rw[hz3];omega))
  rw[Nat.zero_add]at hap
  have hsz:(([]:List Value).toArray++Builtin.zeroCells (Value.int .i64 0).cells n++Builtin.zeroCells (Value.int .i64 0).cells (grownCap w n 0 3-n)).size=grownCap w n 0 3 * 1:=by
   have h1:(Value.int .i64 0).cells.size=1:=rfl
   simp only[Array.size_append,size_zeroCells,h1,List.size_toArray,List.length_nil,Nat.zero_add,←Nat.add_mul]
   congr 1
   omega
  replace hap:=Hd hap
  generalize ([]:List Value).toArray++Builtin.zeroCells (Value.int .i64 0).cells n++Builtin.zeroCells (Value.int .i64 0).cells (grownCap w n 0 3-n)=cur at *
  generalize grownCap w n 0 3=C at *
  have hn0:¬(n:Int)<0:=by omega
  clear hi hz hz2 hz3
  go_enter Tryz.func77,Tryz.ntmps77
  go_wp2_with (at_builtin;refine wpList_append_run rfl _ _ 52 3 rfl _ _ _ _ rfl rfl hap.out ?_)
  go_ret
  exact⟨_,rfl,((Below.refl _ _).drew).alloc (Nat.le_refl _) _,fun B hB=>World.ownsRow_made w.drew cur C hB hcm hsz⟩
theorem wpList_appN{w:World}{ops:Array Oper}{rest:List Oper}{o:Oper}{a:Act}{Q:Exit→Act→World→Prop}(hgd:o.guard=none)(s x:Operand)
 (ho:o.op=.call { callee:=.builtin .append,args:=#[s,x],argTypes:=#[52,52] })
 (B:Nat)(v y:Value)(l m:List Nat)(hs:a.eval s=v)(hx:a.eval x=y)(hown:w.ownsRow B 3 1 v l.length (numsN l))(hB2:B≤w.heap.size)(hM:RowA w w.heap.size y (numsN m))(hlen:l.length+m.length≤4194304)
 (hK:∀v' w',w'.ownsRow B 3 1 v' (l.length+m.length) (numsN (l++m))→w.grownBy w' v.ownBlock→wpList Tryz.prog ops Q rest (a.put o.dst v') w'):wpList Tryz.prog ops Q (o::rest) a w:=by
 obtain⟨i1,hi1,hy0,hy1,hy2⟩:=info_parts infoInt
 have happ:numsN (l++m)=numsN l++numsN m:=by simp[numsN]
 have hml:=numsN_length m
 rcases hM with⟨ao,cap,rfl,h0⟩|⟨b,off,cap,rfl,h0,hc,hb,hj⟩
 ·have hm0:m=[]:=List.eq_nil_of_length_eq_zero (by rw[←hml,h0];rfl)
  subst hm0
  rcases ao with _|ad
  ·exact wpList_append_run hgd s x _ _ ho v v _ w hs hx (run_append_none w B _ _ _ i1 1 Tryz.underlying52 hi1 v _ _ hown cap) (hK v w (by simpa using hown) ⟨rfl,rfl,rfl,Nat.le_refl _,fun _ _ _=>rfl⟩)
  ·refine wpList_append_own w hgd s x _ ho B 3 i1 (.int .i64 0) 1 8 Tryz.underlying52 hi1 hy0 hy1 hy2 rfl (by decide) v l.length (numsN l) hs hown ad 0 cap [] hx rfl (fun j u h=>by simp at h) (fun u h=>by cases h) (by unfold maxLen;omega) (by omega) hB2 ?_
   intro v' w' h1 h2 _
   rw[List.append_nil]at h1
   refine hK v' w' ?_ h2
   rw[List.append_nil]
   exact h1
 ·rw[hml]at hx
  refine wpList_append_own w hgd s x _ ho B 3 i1 (.int .i64 0) 1 8 Tryz.underlying52 hi1 hy0 hy1 hy2 rfl (by decide) v l.length (numsN l) hs hown ⟨b,off,none⟩ m.length cap (numsN m) hx (by rw[hml];omega) (fun j u hu=>?_) (fun u hu=>?_) (by unfold maxLen;omega) (by omega) hB2 ?_
  ·have hjl:j<(numsN m).length:=by
    rcases Nat.lt_or_ge j (numsN m).length with h|h
    ·exact h
    ·rw[List.getElem?_eq_none h]at hu;cases hu
   rw[List.getElem?_eq_getElem hjl]at hu
   injection hu with hu
   rw[Go.WideShapes.add_plain,hj j hjl,hu]
  ·unfold numsN at hu
   obtain⟨k,-,rfl⟩:=List.mem_map.1 hu
   rfl
  ·intro v' w' h1 h2 _
   exact hK v' w' (by rw[happ];exact h1) h2
theorem concatI_call(w:World)(sa sb:Value)(la lb:List Nat)(g:Nat)(ha:RowA w w.heap.size sa (numsN la))(hb:RowA w w.heap.size sb (numsN lb))(hl:la.length+lb.length≤4194304)(hg:Blk w g #[sa,sb] 52):
 Calls Tryz.prog 65 #[.slice (some ⟨g,0,none⟩) 2 2] w fun e w'=>∃v,e=.returned v∧Below w.heap.size w w'∧w'.ownsRow w.heap.size 3 1 v (la++lb).length (numsN (la++lb)):=by
 obtain⟨aoA,capA,hsa,-⟩:=ha.form
 obtain⟨aoB,capB,hsb,-⟩:=hb.form
 rw[numsN_length]at hsa hsb
 subst hsa
 subst hsb
 have hgrow:=Hd (growI_nil (la.length+lb.length) hl w)
 have hai:(la.length:Int)≤4194304:=by omega
 have hbi:(lb.length:Int)≤4194304:=by omega
 have x0:=hg.cell 0 rfl
 have x1:=hg.cell 1 rfl
 replace ha:=Hd ha
 replace hb:=Hd hb
 go_enter Tryz.func65,Tryz.ntmps65
 go_wp2
 go_loopw [3,11] (fun v3 v wr=>wr=w∧((v=.int .i64 0∧v3=.int .i64 0)∨(v=.int .i64 1∧v3=.int .i64 la.length)∨(v=.int .i64 2∧v3=.int .i64 (la.length+lb.length:Nat)))) (fun _ v _=>2-(intOf v).toNat)
 case atStart=>exact⟨rfl,.inl ⟨rfl,rfl⟩⟩
 case round =>
  obtain⟨hwr,h3⟩:=hrel
  have hwr':=hwr.symm
  subst hwr'
  clear hwr
  rcases h3 with⟨rfl,rfl⟩|⟨rfl,rfl⟩|⟨rfl,rfl⟩
  ·go_wp2
   go_roundw
   case rel=>exact⟨trivial,.inr (.inl ⟨rfl,rfl⟩)⟩
   case measure=>simp[intOf]
  ·go_wp2
   exact⟨⟨trivial,.inr (.inr ⟨rfl,congrArg (Value.int .i64) (Int.natCast_add _ _).symm⟩)⟩,by simp[intOf]⟩
  ·go_wp2_with fail
   refine(hgrow.out).mono ?_
   rintro e w2 ⟨v2,rfl,hb2,hown⟩
   have hlo:Hid (w2.ownsRow w.heap.size 3 1 v2 ([]:List Nat).length (numsN [])):=Hd (hown _ (Nat.le_refl _))
   replace hb2:=Hd hb2
   clear hgrow hown x0 x1
   replace hg:=Hd hg
   have y0:∀wr,Below w.heap.size w wr→wr.cell? ⟨g,0,none⟩=some (.slice aoA la.length capA):=fun wr h=>(h.cell (p:=⟨g,0,none⟩) hg.out.lt).trans (hg.out.cell 0 rfl)
   have y1:∀wr,Below w.heap.size w wr→wr.cell? ⟨g,1,none⟩=some (.slice aoB lb.length capB):=fun wr h=>(h.cell (p:=⟨g,1,none⟩) hg.out.lt).trans (hg.out.cell 1 rfl)
   replace y0:=Hd y0
   replace y1:=Hd y1
   go_wp2
   go_loopw [6,27] (fun v6 v wx=>Hid (Below w.heap.size w wx)∧((v=.int .i64 0∧Hid (wx.ownsRow w.heap.size 3 1 v6 ([]:List Nat).length (numsN [])))∨(v=.int .i64 1∧Hid (wx.ownsRow w.heap.size 3 1 v6 la.length (numsN la)))∨(v=.int .i64 2∧Hid (wx.ownsRow w.heap.size 3 1 v6 (la++lb).length (numsN (la++lb)))))) (fun _ v _=>2-(intOf v).toNat)
   case atStart=>exact⟨hb2,.inl ⟨rfl,hlo⟩⟩
   case round=>
    clear hlo hb2
    obtain⟨hbw,hrel⟩:=hrel
    rcases hrel with⟨rfl,hlo⟩|⟨rfl,hlo⟩|⟨rfl,hlo⟩
    ·have x0:=y0.out _ hbw.out
     go_wp2_with (at_builtin;refine wpList_appN rfl _ _ rfl w.heap.size _ _ [] la rfl rfl hlo.out hbw.out.size ((ha.out.stay (stay_of_below hbw.out)).mono hbw.out.size) (by simp;omega) ?k1)
     case k1=>
      intro v' w' h hbx
      have hb3:=Hd (hbw.out.grown hbx hbw.out.size (fun j hj=>(hlo.out.lt j hj).1))
      have h':Hid (w'.ownsRow w.heap.size 3 1 v' la.length (numsN la)):=Hd (by simpa using h)
      clear hbx hbw h
      clear x0 hlo
      go_wp2
      go_roundw
      case rel=>exact⟨hb3,.inr (.inl ⟨rfl,h'⟩)⟩
      case measure=>simp[intOf]
    ·have x1:=y1.out _ hbw.out
     go_wp2_with (at_builtin;refine wpList_appN rfl _ _ rfl w.heap.size _ _ la lb rfl rfl hlo.out hbw.out.size ((hb.out.stay (stay_of_below hbw.out)).mono hbw.out.size) (by omega) ?k2)
     case k2=>
      intro v' w' h hbx
      have hb3:=Hd (hbw.out.grown hbx hbw.out.size (fun j hj=>(hlo.out.lt j hj).1))
      have h':Hid (w'.ownsRow w.heap.size 3 1 v' (la++lb).length (numsN (la++lb))):=Hd (by rw[List.length_append];exact h)
      clear hbx hbw h
      clear x1 hlo
      go_wp2
      go_roundw
      case rel=>exact⟨hb3,.inr (.inr ⟨rfl,h'⟩)⟩
      case measure=>simp[intOf]
    ·obtain⟨ao3,cap3,e3⟩:=own_form4x hlo.out
     subst e3
     go_wp2
     go_ret
     exact⟨_,rfl,hbw.out,hlo.out⟩
open Go.ChangeMaps Go.MapKept
theorem sortI_call(w:World)(B:Nat)(v:Value)(l m:List Nat)(hown:w.ownsRow B 3 1 v l.length (numsN l))(hl:l.length≤4194304)(hm:(intsN l).mergeSort (fun x y=>decide (x≤y))=intsN m):
 Calls Tryz.prog 66 #[v] w fun e w'=>e=.returned (.tuple #[])∧w.grownBy w' v.ownBlock∧w'.ownsRow B 3 1 v m.length (numsN m):=by
 have hlm:m.length=l.length:=by
  have:=congrArg List.length hm
  simpa[intsN]using this.symm
 have hil:(intsN l).length=l.length:=by simp[intsN]
 rcases hown.2 with⟨rfl,hn⟩|⟨g,cap,cur,rfl,h1,h2,h3,h4,h5,h6⟩
 ·have hm0:m=[]:=List.eq_nil_of_length_eq_zero (by rw[hlm];exact hn)
  have hl0:l=[]:=List.eq_nil_of_length_eq_zero hn
  subst hm0
  refine(Tryz.slices_Sort_int_none none 0 w).mono ?_
  rintro e w' ⟨rfl,rfl⟩
  refine⟨rfl,⟨rfl,rfl,rfl,Nat.le_refl _,fun _ _ _=>rfl⟩,World.ownsRow_nil _ _ _ _⟩
 ·have hH:=holds_of_blockI (ss:=intsN l) h2 (by rw[intsN_val,hil];simpa using h6)
  have hg:g<w.heap.size:=(Array.getElem?_eq_some_iff.1 h2).1
  have hc:=Tryz.slices_Sort_int g 0 cap (intsN l) w hH hg (by rw[hil];omega)
  rw[hil]at hc
  refine hc.mono ?_
  rintro e w' ⟨rfl,n,os,rfl⟩
  refine⟨rfl,grownBy_sortedI _,?_⟩
  rw[hm]
  have:=ownsRow_sortedI (w:=w) (n:=n) (os:=os) (ss:=intsN l) (ts:=intsN m) (by simp[intsN,hlm]) h1 h2 (by rw[hil];exact h3) h4 h5
  rw[intsN_val,hil]at this
  rw[hlm]
  exact this
theorem wp_mapV{P:Program}{T E S:TypeId}{zv:Value}(hT:P.underlying T=some (.map S E))(hKs:P.underlying S=some .string){o:Oper}{a:Act}{w:World}{K:Act→World→Prop}{Q:Exit→Act→World→Prop}(hz:(zeroValue E).run P w=.ok zv w)
 (m x:Operand)(hop:o.op=Op.lookup T m x false)(b n:Nat)(f:List UInt8→Option Value)(ha:a.eval m=.map (some b))(h:MapV P S zv w b n f)
 (key:ByteArray)(hks:key.size≤maxLen)(hx:a.eval x=.string key)(r:Option Value)(hr:f key.data.toList=r)(hK:K (a.put o.dst (r.getD zv)) w):o.wp P a w K Q:=by
 subst hr
 obtain⟨D,⟨es,clock,hb,F,hs,hD0⟩,hD⟩:=h
 obtain⟨h1,h2⟩:=hD key.data.toList
 have hkey:=keyOf_text hKs key hks
 have hrun:(Instr.lookup T (.map (some b)) (.string key) false).run P w=.ok ((f key.data.toList).getD zv) w:=by
  rcases Maps.fit_look false (Go.Maps.string_keyed hKs) hT hz hb F hkey with⟨hrun,_,hat⟩|⟨e0,y,hm0,h3,hrun,hR,hat,_⟩
  ·have h4:=hat (.held zv)
   rw[←hD0,h2]at h4
   injection h4 with h4
   rw[h4]
   exact hrun
  ·have h4:=hat (.held zv)
   rw[←hD0,h2]at h4
   have h5:y.1=.held e0.val:=by
    unfold heldR at hR
    injection hR with hR
    rw[←hR]
   rw[h5]at h4
   injection h4 with h4
   rw[h4]
   exact hrun
 unfold Oper.wp
 simp[execOp,hop,ha,hx,hrun,Result.andThen]
 exact hK
structure FillW(w wr:World)(g n k:Nat):Prop where
 below:Below w.heap.size w wr
 ge:w.heap.size≤g
 row:∃cs,Blk wr g cs 3∧cs.size=n∧(∀j<k,cs[j]? = some (.int .i64 (j:Int)))∧∀j<n,∃u,cs[j]? = some u
theorem FillW.start(w:World)(n:Nat):FillW w (w.alloc (.cells (madeCells #[.int .i64 0] n) 3)) w.heap.size n 0:=
 ⟨(Below.refl _ _).alloc (Nat.le_refl _) _,Nat.le_refl _,_,Blk.new _ _ _,size_madeCells _ _,fun j hj=>absurd hj (by omega),fun j hj=>⟨_,Array.getElem?_eq_getElem (by rw[size_madeCells];exact hj)⟩⟩
theorem FillW.step{w wr:World}{g n k:Nat}(h:FillW w wr g n k)(hk:k<n):FillW w (wr.setCell ⟨g,k,none⟩ (.int .i64 (k:Int))) g n (k+1):=by
 obtain⟨cs,h1,h2,h3,h4⟩:=h.row
 refine⟨h.below.setCell h.ge _,h.ge,_,h1.set k _,by simp[h2],fun j hj=>?_,fun j hj=>⟨_,Array.getElem?_eq_getElem (by simpa[h2]using hj)⟩⟩
 rw[Array.getElem?_setIfInBounds]
 by_cases hjk:k=j
 ·subst hjk
  rw[if_pos rfl,if_pos (by omega)]
 ·rw[if_neg hjk]
  exact h3 j (by omega)
theorem FillW.own{w wr:World}{g n:Nat}(h:FillW w wr g n n)(hn:n≤4194304):wr.ownsRow w.heap.size 3 1 (.slice (some ⟨g,0,none⟩) n n) (List.range n).length (numsN (List.range n)):=by
 obtain⟨cs,h1,h2,h3,-⟩:=h.row
 rw[List.length_range]
 refine⟨by simp[numsN],.inr ⟨g,n,cs,rfl,h.ge,h1,Nat.le_refl _,by unfold maxLen;omega,by omega,?_⟩⟩
 apply List.ext_getElem?
 intro j
 by_cases hj:j<n
 ·rw[List.getElem?_take_of_lt (by omega),Array.getElem?_toList,h3 j hj]
  simp[numsN,hj]
 ·rw[List.getElem?_take_eq_none (by omega),List.getElem?_eq_none (by simp[numsN];omega)]
theorem near_any(N:Nat)(hN:N≤9223372036854775807)(w0 w:World)(hE:Env w)(b0 hb n:Nat)(f:List UInt8→Option Value)(rows:List (List V))(ks ka:List Nat)(an ap ar:Option Addr)(na cn np cp cr:Nat)(vs vl s:Value)(pr:List (Nat×Nat))(r:List V)
 (hpr:pr.map (·.1)=ka)(hprl:pr.length≤1000000)(hH:HashW w0 w b0 hb (fun vl=>#[.slice an na cn,.slice ap np cp,vs,.slice ar rows.length cr,.map (some b0),vl]) n f (gK rows ks rows.length) vl (lK rows ks rows.length))
 (hvs:PairR w vs pr)(hr:rows.length≤1048575)(hs:LA w N s r)(hka:∀k∈ka,k<r.length)(hm:∀v∈r,mayV v=true)(hlen:(encL (cellsJ r ka)).length≤10000000):
 Calls Tryz.prog 48 #[.pointer (some ⟨hb,0,none⟩),s] w fun e w'=>∃v,e=.returned v∧Below w.heap.size w w'∧w'.ownsRow w.heap.size 3 1 v (nearZ rows ks (keyJ r ka)).length (numsN (nearZ rows ks (keyJ r ka))):=by
 obtain⟨asl,csl,hvse,-⟩:=id hvs
 subst hvse
 obtain⟨ao,cap,rfl⟩:=hs.form6
 have hkl:∀K,keyJ r ka=some K→K.length≤10000000:=fun K h=>by rw[keyJ_len h];exact hlen
 obtain⟨kj,hkj⟩:∃kj,keyJ r ka=kj:=⟨_,rfl⟩
 rw[hkj]at hkl ⊢
 obtain⟨Z,hZ⟩:∃Z,nearZ rows ks kj=Z:=⟨_,rfl⟩
 rw[hZ]
 replace hZ:=Hd hZ
 replace hkj:=Hd hkj
 have cS:=Hd (sides_any w pr (.slice an na cn) (.slice ap np cp) _ hvs hprl ⟨_,_,_,rfl⟩ ⟨_,_,_,rfl⟩)
 have x0:=hH.box.cell 0 rfl
 have x1:=hH.box.cell 1 rfl
 have x2:=hH.box.cell 2 rfl
 have hzv:∀W,(zeroValue 52).run Tryz.prog W=.ok nilS W:=fun W=>by kernel_rfl
 have hmk:∀w:World,(Instr.makeSlice 52 (.int .i64 (rows.length:Int)) (.int .i64 (rows.length:Int))).run Tryz.prog w=.ok (.slice (some ⟨w.heap.size,0,none⟩) rows.length rows.length) (w.alloc (.cells (madeCells #[.int .i64 0] rows.length) 3)):=fun w=>run_make_row' 52 3 (.int .i64 0) 8 Tryz.underlying52 infoInt rfl .i64 .i64 rows.length (by omega) (by omega) w
 replace hH:=Hd hH
 replace hs:=Hd hs
 replace hka:=Hd hka
 replace hm:=Hd hm
 replace hlen:=Hd hlen
 replace hpr:=Hd hpr
 replace hzv:=Hd hzv
 have hEw:=Hd hE
 clear hE hvs
 go_enter Tryz.func48,Tryz.ntmps48
 go_wp2_with fail
 refine cS.out.mono ?_
 rintro e w1 ⟨va,vb,rfl,hT⟩
 have hb1:=hT.below
 have own1:=hT.l
 rw[hpr.out]at own1
 obtain⟨a6,c6,h6⟩:=own_form4x own1
 obtain⟨a7,c7,h7⟩:=own_form4x hT.r
 subst h6
 subst h7
 have hat:RowA w1 w1.heap.size (.slice a6 ka.length c6) (numsN ka):=own_row (by rw[numsN_length];exact own1)
 have cK:=Hd (keyJ_any N hN w1 (hEw.out.below hb1) _ _ r ka (hs.out.stay hb1) hat hka.out hm.out (by have:=congrArg List.length hpr.out;rw[List.length_map]at this;omega) hlen.out)
 replace hb1:=Hd hb1
 rw[hkj.out]at cK
 clear hT own1 hat cS x0 x1 x2
 cases kj with
 | none =>
  simp only[Option.getD_none,Option.isSome_none]at cK
  clear hkl
  obtain rfl:List.range rows.length=Z:=hZ.out
  go_wp2_with fail
  refine cK.out.mono ?_
  rintro e w2 ⟨rfl,hb2⟩
  have hb12:=hb1.out.trans (hb2.mono hb1.out.size)
  have hH2:=hH.out.stay hb12
  have y1:=hH2.box.cell 3 rfl
  replace hH2:=Hd hH2
  have hF0:=Hd (FillW.start w2 rows.length)
  have hb12h:=Hd hb12
  clear cK hb2 hb12 hH hb1
  go_wp2_with fail
  go_loopw [36] (fun i wr=>∃k,k≤rows.length∧i=.int .i64 (k:Int)∧Hid (FillW w2 wr w2.heap.size rows.length k)) (fun i _=>rows.length-(intOf i).toNat)
  case atStart=>exact⟨0,Nat.zero_le _,rfl,hF0⟩
  case round=>
   clear hF0
   obtain⟨k,hk1,rfl,hF⟩:=hrel
   by_cases hlt:k<rows.length
   ·have hki:(k:Int)<(rows.length:Int):=by omega
    obtain⟨cs,hq1,hq2,hq3,hq4⟩:=hF.out.row
    obtain⟨u,hu⟩:=hq4 k hlt
    have z1:=hq1.cell k hu
    have z2:=hq1.free k
    have hF1:=Hd (hF.out.step hlt)
    clear hq1 hq2 hq3 hq4 hF hu
    go_wp2
    go_roundw
    case rel=>exact⟨k+1,hlt,by go_num,hF1⟩
    case measure=>simp[intOf];omega
   ·have hki:¬(k:Int)<(rows.length:Int):=by omega
    obtain rfl:k=rows.length:=by omega
    go_wp2
    go_ret
    have ho:=own_low4 (hF.out.own (by omega)) hb12h.out.size
    rw[List.length_range]at ho
    exact⟨.slice (some ⟨w2.heap.size,0,none⟩) rows.length rows.length,rfl,hb12h.out.trans (hF.out.below.mono hb12h.out.size),ho⟩
 | some Kx =>
  have hK9:=hkl Kx rfl
  simp only[Option.getD_some,Option.isSome_some]at cK
  clear hkl
  obtain rfl:nearL rows ks Kx=Z:=hZ.out
  obtain⟨ky,hky⟩:∃ky:ByteArray,ky=⟨Kx.toArray⟩:=⟨_,rfl⟩
  have hkd:ky.data.toList=Kx:=by rw[hky]
  have hkz:ky.size≤maxLen:=by
   have:ky.size=Kx.length:=by rw[hky];simp[ByteArray.size]
   unfold maxLen;omega
  rw[←hky]at cK
  replace hky:=Hd hky
  go_wp2_with fail
  refine cK.out.mono ?_
  rintro e w2 ⟨rfl,hb2⟩
  have hb12:=hb1.out.trans (hb2.mono hb1.out.size)
  have hH2:=hH.out.stay hb12
  obtain⟨fv,hfv⟩:∃fv,f ky.data.toList=fv:=⟨_,rfl⟩
  have hrow:=hH2.rows ky.data.toList
  rw[hfv]at hrow
  obtain⟨ao9,ca9,hvf⟩:=own_form4x hrow
  have hlo:=hH2.loose
  obtain⟨al,cl,hvl⟩:=own_form4x hlo
  have y4:=hH2.box.cell 4 rfl
  have y5:=hH2.box.cell 5 rfl
  have hgl:=gl_len rows ks Kx
  have hsrt:=Hd (near_sorted rows ks Kx)
  rw[hkd]at hrow hvf
  rw[hvf]at hrow
  subst hvl
  replace hlo:=Hd hlo
  replace hfv:=Hd hfv
  replace hvf:=Hd hvf
  replace hrow:=Hd hrow
  have hb12h:=Hd hb12
  replace hkd:=Hd hkd
  replace hZ:=Hd hZ
  replace hH2:=Hd hH2
  clear hH cK hb2 hb12 hb1 hK9 y4 y5
  go_upto_region 11 with fail
  have hdr:Below w2.heap.size w2 w2.drew:=below_drewN (Below.refl _ _) 1
  have hHV:=hH2.out.stay hdr
  have hBV0:Blk w2.drew hb #[.slice an na cn,.slice ap np cp,.slice asl pr.length csl,.slice ar rows.length cr,.map (some b0),.slice al (lK rows ks rows.length).length cl] 90:=hHV.box
  have hMap:=Hd hHV.map
  have hRa:Hid (RowA w2.drew w2.drew.heap.size (.slice ao9 (gK rows ks rows.length Kx).length ca9) (numsN (gK rows ks rows.length Kx))):=Hd (own_row (by rw[numsN_length];exact own_stay hrow.out fun g hg=>hdr.block g (hrow.out.lt g hg).2))
  have hRb:Hid (RowA w2.drew w2.drew.heap.size (.slice al (lK rows ks rows.length).length cl) (numsN (lK rows ks rows.length))):=Hd (own_row (by rw[numsN_length];exact own_stay hlo.out fun g hg=>hdr.block g (hlo.out.lt g hg).2))
  have hb0V:=Hd (hb12h.out.trans (hdr.mono hb12h.out.size))
  clear hHV hrow hlo hdr hH2 hb12h
  refine wp_region_held_drew (S:=fun V=>Blk V hb #[.slice an na cn,.slice ap np cp,.slice asl pr.length csl,.slice ar rows.length cr,.map (some b0),.slice al (lK rows ks rows.length).length cl] 90) (by kernel_rfl) hBV0 (fun hS=>?_)
  generalize w2.drew=V0 at *
  refine tkS [0,1,2,3,4,6,7,8,9] ?_
  iterate 9
   refine tkC ?_ rfl (fun w' hS=>?_) hS ?_
   rotate_left
   ·
    have q4:=hS.cell 4 rfl;have q5:=hS.cell 5 rfl
    go_simp
    try with_reducible rfl
  refine rdH 5 rfl (fun K hK=>?_)
  clear hS
  rw[if_pos (by kernel_rfl)]
  refine wp_mapV Tryz.underlying88 Tryz.underlying9 (hzv.out _) (.tmp 48) (.tmp 49) rfl b0 n f rfl hMap.out ky hkz rfl fv hfv.out ?_
  rw[hvf.out]
  refine hKo hK hBV0 (fun hS=>?_)
  clear hK K
  refine rdH 10 rfl (fun K hK=>?_)
  clear hS
  go_simp
  go_wp2_with fail
  have hal:Below V0.heap.size V0 (V0.alloc (.cells #[.slice ao9 (gK rows ks rows.length Kx).length ca9,.slice al (lK rows ks rows.length).length cl] 52)):=(Below.refl _ _).alloc (Nat.le_refl _) _
  have hnb:=Blk.new V0 #[.slice ao9 (gK rows ks rows.length Kx).length ca9,.slice al (lK rows ks rows.length).length cl] 52
  have cC:=Hd (concatI_call _ _ _ _ _ _ ((hRa.out.stay (stay_of_below hal)).mono hal.size) ((hRb.out.stay (stay_of_below hal)).mono hal.size) (by rw[←List.length_append];omega) hnb)
  have hBV1:=hBV0.alloc (.cells #[.slice ao9 (gK rows ks rows.length Kx).length ca9,.slice al (lK rows ks rows.length).length cl] 52)
  have hb1V:=Hd (hb0V.out.trans (hal.mono hb0V.out.size))
  refine hKo hK hBV1 (fun hS=>?_)
  clear hK K hal hnb hRa hRb hMap
  refine rdH 11 rfl (fun K hK=>?_)
  clear hS
  go_simp
  refine(cC.out).mono ?_
  rintro e w5 ⟨v,rfl,hb5,own5⟩
  go_wp2_with fail
  refine hKo hK ((hb5.block hb hBV1.lt).trans hBV1) (fun hS=>?_)
  clear hK K
  have hb5V:=Hd (hb1V.out.trans (hb5.mono hb1V.out.size))
  have cT:=Hd (sortI_call w5 w.heap.size v _ (nearL rows ks Kx) (own_low4 own5 hb1V.out.size) (by omega) hsrt.out)
  have hvb:=Hd (fun g (hg:v.ownBlock=some g)=>Nat.le_trans hb1V.out.size (own5.lt g hg).1)
  clear cC hb5 own5 hBV0 hBV1 hb1V
  refine tkH 12 ?_ rfl (fun w' hS=>?_) hS ?_
  rotate_left
  ·
   skip
   go_simp
   try with_reducible rfl
  refine wpAnyH_done (by kernel_rfl) ?_ _
  clear hS
  go_wp2_with fail
  refine cT.out.mono ?_
  rintro e w6 ⟨rfl,hg6,own6⟩
  have hfin:=Hd (hb5V.out.grown hg6 hb5V.out.size hvb.out)
  replace own6:=Hd own6
  clear cT hg6
  go_wp2
  go_ret
  exact⟨v,rfl,hfin.out,own6.out⟩
open hyp (RowA TextsA CellsStay stay_of_below textsV textsV_length own_row)
structure Spared(S:Nat→Prop)(a b:World):Prop where
 os:b.os=a.os
 tape:b.tape=a.tape
 output:b.output=a.output
 size:a.heap.size≤b.heap.size
 block:∀k,k<a.heap.size→¬S k→b.heap[k]? = a.heap[k]?
theorem Spared.ofBelow{S:Nat→Prop}{a b:World}(h:Below a.heap.size a b):Spared S a b:=⟨h.os,h.tape,h.output,h.size,fun k hk _=>h.block k hk⟩
theorem Spared.trans{S:Nat→Prop}{a b c:World}(h:Spared S a b)(h2:Spared S b c):Spared S a c:=
 ⟨h2.os.trans h.os,h2.tape.trans h.tape,h2.output.trans h.output,Nat.le_trans h.size h2.size,fun k hk hn=>(h2.block k (Nat.lt_of_lt_of_le hk h.size) hn).trans (h.block k hk hn)⟩
theorem Spared.grown{S:Nat→Prop}{a b:World}{o:Option Nat}(h:a.grownBy b o)(ho:∀g,o=some g→S g):Spared S a b:=
 ⟨h.os,h.tape,h.output,h.size,fun k hk hn=>h.block k hk (fun e=>hn (ho k e.symm))⟩
theorem Spared.cell{S:Nat→Prop}{a b:World}(h:Spared S a b)(t i:Nat)(hS:S t)(v:Value):Spared S a (b.setCell ⟨t,i,none⟩ v):=
 ⟨h.os,h.tape,h.output,by simpa[World.setCell]using h.size,fun k hk hn=>(Below.heap_setCell _ _ _ k (fun e=>hn (by rw[e];exact hS))).trans (h.block k hk hn)⟩
theorem hash1_any(N:Nat)(hN:N≤1048576)(w:World)(t:Nat)(names rv xv:Value)(S:Nat→Prop)(L:List (List V))(x:List V)(bo:Bool)(ht:Blk w t #[names,rv] 25)(hM:MR w N S rv L)(hSlt:∀b,S b→b<w.heap.size)(hSt:¬S t)(hla:LA w N xv x)(hlen:L.length+1≤1048576):
 Calls Tryz.prog 23 #[xv,.bool bo,.pointer (some ⟨t,0,none⟩)] w fun e w'=>e=.returned (.bool true)∧∃rv',Blk w' t #[names,rv'] 25∧MR w' N (fun b=>S b∨(w.heap.size≤b∧b<w'.heap.size)) rv' (L++[x])∧Spared (fun b=>b=t∨S b) w w':=by
 obtain⟨ao,cap,rfl⟩:=hla.form6
 obtain⟨aor,capr,rfl⟩:=hM.form
 go_enter Tryz.func23,Tryz.ntmps23
 go_upto_region 1 with fail
 have hal:Below w.heap.size w w.drew:=below_drewN (Below.refl _ _) 1
 have hsz:w.drew.heap.size=w.heap.size:=rfl
 have hMV:=hM.stay (w':=w.drew) (fun b hS hlt=>hal.block b hlt)
 have hlaV:=hla.stay hal
 have hS0:Blk w.drew t #[names,.slice aor L.length capr] 25:=ht
 have hSp:=Hd (Spared.ofBelow (S:=fun b=>b=t∨S b) hal)
 refine wp_region_late [7] (S:=fun V=>Blk V t #[names,.slice aor L.length capr] 25) (by kernel_rfl) hS0 (fun hS=>?_)
 have hV:=hS0
 have htl:=hV.lt
 clear hS0 hal hla hM ht
 rw[←hsz]at hSlt
 obtain⟨q,hq⟩:∃q,w.heap.size=q:=⟨_,rfl⟩
 have hcall:=Hd (jrow_any N (by omega) w.drew _ _ hlaV)
 generalize w.drew=V0 at *
 refine tlH 0 ?_ rfl (fun w' hS=>?_) hS ?_
 rotate_left
 ·
  skip
  go_simp
  try with_reducible rfl
 refine tlH 1 ?_ rfl (fun w' hS=>?_) hS ?_
 rotate_left
 ·
  have z0:=hS.cell 0 rfl;have z1:=hS.cell 1 rfl
  go_simp
  try with_reducible rfl
 refine tlH 2 ?_ rfl (fun w' hS=>?_) hS ?_
 rotate_left
 ·
  skip
  go_simp
  try with_reducible rfl
 refine wpAnyL_ready (i:=3) (by kernel_rfl) rfl (fun K hK=>?_)
 clear hS
 go_simp
 refine(hcall.out).mono ?_
 rintro e w5 ⟨a9,c9,rfl,hb5,hl5⟩
 go_wp2_with fail
 refine hKo hK ((hb5.block _ hV.lt).trans hV) (fun hS=>?_)
 clear hK K
 have hM5:=hMV.stay (fun b hS hlt=>hb5.block b hlt)
 have hs5:=hb5.size
 have hV5:Blk w5 t _ _:=(hb5.block _ hV.lt).trans hV
 have hSp5:=Hd (hSp.out.trans (Spared.ofBelow hb5))
 clear hcall hV hMV hlaV hSp hb5
 refine wpAnyL_ready (i:=4) (by kernel_rfl) rfl (fun K hK=>?_)
 clear hS
 go_simp
 go_wp2_with fail
 have hal:=((Below.refl w5.heap.size w5).alloc (Nat.le_refl _) (.cells #[.slice a9 x.length c9] 32))
 have hM6:=hM5.stay (fun b hS hlt=>hal.block b hlt)
 have hl6:=hl5.stay (fun b hS hlt=>hal.block b hlt)
 have hs6:=World.size_alloc w5 (.cells #[.slice a9 x.length c9] 32)
 have hn6:(w5.alloc (.cells #[.slice a9 x.length c9] 32)).cell? ⟨w5.heap.size,0,none⟩=some (.slice a9 x.length c9):=(Blk.new w5 #[.slice a9 x.length c9] 32).cell 0 rfl
 have hV6:=hV5.alloc (.cells #[.slice a9 x.length c9] 32)
 have hSp6:=Hd (hSp5.out.trans (Spared.ofBelow hal))
 refine hKo hK hV6 (fun hS=>?_)
 clear hK K hM5 hl5 hV5 hSp5
 refine wpAnyL_ready (i:=5) (by kernel_rfl) rfl (fun K hK=>?_)
 clear hS
 refine wp_pushR (.tmp 7) (.tmp 10) rfl N S (Fr V0.heap.size w5) _ _ rfl hM6 ?d2 w5.heap.size _ (.slice a9 x.length c9) rfl hn6 hl6 ?d3 hlen ?d5
 case d2=>intro b hb;rw[hs6];have:=hSlt b hb;omega
 case d3=>intro b hb;exact⟨by rw[hs6];have:=hb.2;omega,fun h=>by have:=hSlt b h;have:=hb.1;omega⟩
 intro v' w' hM' hg hvS
 have hgs:=hg.size
 rw[hs6]at hgs
 have hV7:Blk w' t _ _:=(hg.block _ hV6.lt (fun e=>hSt (hvS _ e.symm))).trans hV6
 have hSp7:=Hd (hSp6.out.trans (Spared.grown hg (fun g e=>.inr (hvS g e))))
 obtain⟨ao7,cap7,hv7⟩:=hM'.form
 rw[List.length_append,List.length_singleton]at hv7
 subst hv7
 refine hKo hK hV7 (fun hS=>?_)
 clear hK K hM6 hl6 hn6 hg hvS hV6 hSp6 hal
 refine tlH 6 ?_ rfl (fun w' hS=>?_) hS ?_
 rotate_left
 ·
  skip
  go_simp
  try with_reducible rfl
 refine wpAnyL_late (i:=7) (by kernel_rfl) rfl (by kernel_rfl) (fun K hK=>?_)
 clear hS
 have f1:=hV7.free 1
 have z0:=hV7.cell 0 rfl
 have z1:=hV7.cell 1 rfl
 have hV8:=hV7.set 1 (.slice ao7 (L.length+1) cap7)
 have hSp8:=Hd (hSp7.out.cell t 1 (.inl rfl) (.slice ao7 (L.length+1) cap7))
 go_simp
 go_wp2_with fail
 refine hK.out _ _ ?_
 clear hK K f1 z0 z1
 try simp only[List.getElem_toArray,List.getElem_cons_succ,List.getElem_cons_zero,Act.put,List.setIfInBounds_toArray,List.set_cons_zero,List.set_cons_succ]
 refine wpAnyL_done (by kernel_rfl) ?_ _
 replace hV8:=Hd hV8
 have hsc:(w'.setCell ⟨t,1,none⟩ (.slice ao7 (L.length+1) cap7)).heap.size=w'.heap.size:=by simp[World.setCell]
 have hM8:=Hd ((hM'.mono (S':=fun b=>S b∨(w.heap.size≤b∧b<(w'.setCell ⟨t,1,none⟩ (.slice ao7 (L.length+1) cap7)).heap.size)) (fun b hb=>by
  rw[hsc]
  rcases hb with hb|hb|hb
  ·exact .inl hb
  ·have h1:=hb.1
   have h2:=hb.2
   exact .inr ⟨by omega,by omega⟩
  ·have h1:=hb.1
   have h2:=hb.2
   exact .inr ⟨by omega,by omega⟩)).stay (w':=w'.setCell ⟨t,1,none⟩ (.slice ao7 (L.length+1) cap7)) (fun b hb hlt=>Below.heap_setCell _ _ _ b (fun e=>by
  have e2:b=t:=e
  subst e2
  rcases hb with hb|hb
  ·exact hSt hb
  ·have:=hb.1
   omega)))
 clear hM' hV7
 go_wp2
 go_ret
 exact⟨rfl,_,hV8.out,hM8.out,hSp8.out⟩
def partsL(A B:List ByteArray)(r:List V)(rows:List (List V))(ids:List Nat):List (List V×Bool):=
 ids.filterMap fun i=>if compat A B r (rows.getD i [])=true then some (joinR A B r (rows.getD i []),shared A B r (rows.getD i [])) else none
theorem parts_yes{A B:List ByteArray}{r:List V}{rows:List (List V)}{ids:List Nat}{k:Nat}(h:k<ids.length)(hi:ids[k]<rows.length)(hc:compat A B r rows[ids[k]]=true):
 partsL A B r rows (ids.take (k+1))=partsL A B r rows (ids.take k)++[(joinR A B r rows[ids[k]],shared A B r rows[ids[k]])]:=by
 have e:rows.getD ids[k] []=rows[ids[k]]:=by simp[hi]
 unfold partsL
 rw[List.take_succ_eq_append_getElem h,List.filterMap_append]
 simp only[List.filterMap_cons,List.filterMap_nil,e,hc,if_true]
theorem parts_no{A B:List ByteArray}{r:List V}{rows:List (List V)}{ids:List Nat}{k:Nat}(h:k<ids.length)(hi:ids[k]<rows.length)(hc:compat A B r rows[ids[k]]=false):
 partsL A B r rows (ids.take (k+1))=partsL A B r rows (ids.take k):=by
 have e:rows.getD ids[k] []=rows[ids[k]]:=by simp[hi]
 unfold partsL
 rw[List.take_succ_eq_append_getElem h,List.filterMap_append]
 simp only[List.filterMap_cons,List.filterMap_nil,e,hc,Bool.false_eq_true,if_false,List.append_nil]
structure DoW(N n mx:Nat)(w:World)(k:FuncId)(caps:Array Value)(T:Nat→Prop)(J U:World→List (List V×Bool)→World→Prop):Prop where
 known:∀args W,(callFunc k args).run Tryz.prog W=.ok (.enter k args) W
 start:∀w1,Below w.heap.size w w1→J w1 [] w1
 stay:∀w1 l W W',J w1 l W→Below W.heap.size W W'→J w1 l W'
 spare:∀w1 l W,J w1 l W→Spared T w1 W
 call:∀w1 l W a c x sh,J w1 l W→l.length<mx→LA W N (.slice a n c) x→Calls Tryz.prog k (#[.slice a n c,.bool sh]++caps) W fun e W'=>∃go,e=.returned (.bool go)∧(go=true→J w1 (l++[(x,sh)]) W')∧(go=false→U w1 (l++[(x,sh)]) W')
theorem below_spared{T:Nat→Prop}{wq w w1 W:World}(hq:Below wq.heap.size wq w)(h1:Below w.heap.size w w1)(hs:Spared T w1 W)(hT:∀b,T b→wq.heap.size≤b):Below wq.heap.size wq W:=
 have h2:=hq.trans (h1.mono hq.size)
 ⟨hs.os.trans h2.os,hs.tape.trans h2.tape,hs.output.trans h2.output,Nat.le_trans h2.size hs.size,fun k hk=>(hs.block k (by have:=h2.size;omega) (fun h=>by have:=hT k h;omega)).trans (h2.block k hk)⟩
theorem with_any(N:Nat)(hN:N≤1048576)(w0 wq w:World)(hE:Env wq)(hq:Below wq.heap.size wq w)(b0 hb m:Nat)(f:List UInt8→Option Value)(A B:List ByteArray)(rows:List (List V))(ks ka:List Nat)(an ap ar:Option Addr)(n cn np cp cr:Nat)(vs vl s:Value)(r:List V)
 (hA:A.Nodup)(hB:B.Nodup)(hn:(B.foldl addN A).length=n)(hnN:n≤N)(hB9:B.length≤64)(hka:(comN A B).map (fun x=>A.idxOf x)=ka)
 (hH:HashW w0 wq b0 hb (fun vl=>#[.slice an n cn,.slice ap np cp,vs,.slice ar rows.length cr,.map (some b0),vl]) m f (gK rows ks rows.length) vl (lK rows ks rows.length))
 (hva:RowA wq wq.heap.size (.slice ap np cp) (numsN (atN A B)))(hvs:PairR wq vs (shK A B B.length))(hR:RowsA wq N (.slice ar rows.length cr) rows)(hrB:∀s∈rows,rowB B.length s=true)(hr:rows.length≤1048575)
 (hs:LA wq N s r)(hrA:rowB A.length r=true)(hlen:(encL (cellsJ r ka)).length≤10000000)(k:FuncId)(caps:Array Value)(T:Nat→Prop)(J U:World→List (List V×Bool)→World→Prop)(hT:∀b,T b→wq.heap.size≤b∧b<w.heap.size)(hD:DoW N n rows.length w k caps T J U):
 Calls Tryz.prog 22 #[.pointer (some ⟨hb,0,none⟩),s,.func (.func k) #[] caps] w fun e w'=>e=.returned (.tuple #[])∧∃w1,Below w.heap.size w w1∧(J w1 (partsL A B r rows (nearZ rows ks (keyJ r ka))) w'∨∃l1 x l2,partsL A B r rows (nearZ rows ks (keyJ r ka))=l1++x::l2∧U w1 (l1++[x]) w'):=by
 obtain⟨asl,csl,hvse,-⟩:=id hvs
 subst hvse
 obtain⟨ao,cap,rfl⟩:=hs.form6
 have hpr:=sh_all (A:=A) hB
 have hp1:(shK A B B.length).map (·.1)=ka:=by rw[hpr,List.map_map,←hka];rfl
 have hkai:∀q∈ka,q<r.length:=fun q hq=>by
  rw[←hka]at hq
  obtain⟨x,hx,rfl⟩:=List.mem_map.1 hq
  rw[row_len hrA]
  exact List.idxOf_lt_length_of_mem (mem_com.1 hx).2
 have cN:=Hd (near_any N (by omega) w0 w (hE.below hq) b0 hb m f rows ks ka an ap ar n cn np cp cr (.slice asl (shK A B B.length).length csl) vl _ _ r hp1 (Nat.le_trans (shK_len _ _ _) (by omega)) (hH.stay hq) (PairR.stay hvs hq) hr (hs.stay hq) hkai (row_may hrA) hlen)
 obtain⟨ids,hids⟩:∃ids,nearZ rows ks (keyJ r ka)=ids:=⟨_,rfl⟩
 have hidl:∀i∈ids,i<rows.length:=fun i hi=>by rw[←hids]at hi;exact near_lt hi
 have hidn:ids.length≤rows.length:=by rw[←hids];exact near_len _ _ _
 rw[hids]at cN ⊢
 replace hH:=Hd hH
 replace hs:=Hd hs
 replace hva:=Hd hva
 replace hvs:=Hd hvs
 replace hR:=Hd hR
 replace hrB:=Hd hrB
 replace hidl:=Hd hidl
 replace hD:=Hd hD
 replace hT:=Hd hT
 replace hq:=Hd hq
 clear hpr hp1 hkai hlen hids hE hka
 go_enter Tryz.func22,Tryz.ntmps22
 go_wp2_with fail
 refine cN.out.mono ?_
 rintro e w1 ⟨v,rfl,hb1,own1⟩
 obtain⟨a13,c13,h13⟩:=own_form4x own1
 subst h13
 have hJ0:=Hd (hD.out.start w1 hb1)
 replace hb1:=Hd hb1
 replace own1:=Hd own1
 clear cN
 go_wp2_with fail
 go_loopw [15] (fun i wr=>∃j,j≤ids.length∧i=.int .i64 (j:Int)∧Hid (J w1 (partsL A B r rows (ids.take j)) wr)) (fun i _=>ids.length-(intOf i).toNat)
 case atStart=>exact⟨0,Nat.zero_le _,rfl,hJ0⟩
 case round =>
  clear hJ0
  obtain⟨j,hj1,rfl,hJ⟩:=hrel
  by_cases hlt:j<ids.length
  ·have hji:(j:Int)<(ids.length:Int):=by omega
   have hBq:=below_spared hq.out hb1.out (hD.out.spare _ _ _ hJ.out) (fun b hb=>(hT.out b hb).1)
   have hin:=hidl.out _ (List.getElem_mem hlt)
   have ownr:wr.ownsRow w.heap.size 3 1 (.slice a13 ids.length c13) ids.length (numsN ids):=own_stay own1.out fun g hg=>(hD.out.spare _ _ _ hJ.out).block g (own1.out.lt g hg).2 (fun hTg=>by have h1:=(hT.out g hTg).2;have h2:=(own1.out.lt g hg).1;omega)
   have hrow9:RowA wr wr.heap.size (.slice a13 ids.length c13) (numsN ids):=own_row (by rw[numsN_length];exact ownr)
   obtain⟨ao9,cap9,he9,-,hat⟩:=hrow9.form
   injection he9 with he9 e91 e92
   clear e91 e92
   subst he9
   obtain⟨b9,o9,rfl,-,z9⟩:=hat j (by rw[numsN_length];exact hlt)
   replace z9:wr.cell? ⟨b9,o9+j,none⟩=some (.int .i64 (ids[j]:Int)):=by simpa[numsN]using z9
   have hJn:=fun hc=>parts_yes (A:=A) (B:=B) (r:=r) (rows:=rows) hlt hin hc
   have hJm:=fun hc=>parts_no (A:=A) (B:=B) (r:=r) (rows:=rows) hlt hin hc
   have hcut:=Hd (show ∃rest,partsL A B r rows ids=partsL A B r rows (ids.take (j+1))++rest from⟨partsL A B r rows (ids.drop (j+1)),by
    unfold partsL
    rw[←List.filterMap_append,List.take_append_drop]⟩)
   have hj2:=Hd (show j+1≤ids.length from hlt)
   have hL9:(partsL A B r rows (ids.take j)).length<rows.length:=by
    have h1:(partsL A B r rows (ids.take j)).length≤(ids.take j).length:=List.length_filterMap_le _ _
    rw[List.length_take]at h1
    omega
   generalize ids[j]=i at *
   generalize hL2:partsL A B r rows (ids.take (j+1))=L2 at *
   replace hL2:=Hd hL2
   generalize partsL A B r rows (ids.take j)=L1 at *
   replace hJn:=Hd hJn
   replace hL9:=Hd hL9
   replace hJm:=Hd hJm
   replace hin:=Hd hin
   replace hBq:=Hd hBq
   clear ownr hrow9 hat hlt
   have hsi:=hrB.out _ (List.getElem_mem hin.out)
   obtain⟨arx,crx,he8,-,hrc⟩:=(hR.out.stay hBq.out).form
   injection he8 with e81 e82 e83
   clear e82 e83
   subst e81
   obtain⟨br,orr,a5,c5,rfl,-,hc5,hla5⟩:=hrc i hin.out
   replace hla5:=Hd hla5
   replace hsi:=Hd hsi
   clear hrc
   generalize hsr:rows[i]'hin.out=sr at *
   clear hsr
   go_upto_region 3 with fail
   have hdr:Below wr.heap.size wr wr.drew:=below_drewN (Below.refl _ _) 1
   have hBV:=hBq.out.trans (hdr.mono hBq.out.size)
   have hJV:=Hd (hD.out.stay _ _ _ _ hJ.out hdr)
   have hbx:Blk wr.drew hb #[.slice an n cn,.slice ap np cp,.slice asl (shK A B B.length).length csl,.slice (some ⟨br,orr,none⟩) rows.length cr,.map (some b0),vl] 90:=(hH.out.stay hBV).box
   have hcV:=sB hdr hc5
   have cM:=Hd (meet_any N hN wr.drew A B r sr an n cn (.slice ap np cp) _ _ _ hA hB hrA (row_len hsi.out) (row_may hsi.out) hn hnN ((hva.out.stay (stay_of_below hBV)).mono hBV.size) (hvs.out.stay hBV) (hs.out.stay hBV) (hla5.out.stay hdr) (by omega))
   have hS0:Blk wr.drew hb #[.slice an n cn,.slice ap np cp,.slice asl (shK A B B.length).length csl,.slice (some ⟨br,orr,none⟩) rows.length cr,.map (some b0),vl] 90∧wr.drew.cell? ⟨br,orr+i,none⟩=some (.slice a5 sr.length c5):=⟨hbx,hcV⟩
   refine wp_region_held_drew (S:=fun V=>Blk V hb #[.slice an n cn,.slice ap np cp,.slice asl (shK A B B.length).length csl,.slice (some ⟨br,orr,none⟩) rows.length cr,.map (some b0),vl] 90∧V.cell? ⟨br,orr+i,none⟩=some (.slice a5 sr.length c5)) (by kernel_rfl) hS0 (fun hS=>?_)
   generalize wr.drew=V0 at *
   clear hdr hBV hJ hla5 hc5 hS0 z9
   refine tkS [0,1,2,3,4,5,6,7,8,9,10,11] ?_
   iterate 12
    refine tkC ?_ rfl (fun w' hS=>?_) hS ?_
    rotate_left
    ·
     have q0:=hS.1.cell 0 rfl;have q1:=hS.1.cell 1 rfl;have q2:=hS.1.cell 2 rfl;have q3:=hS.1.cell 3 rfl;have q5:=hS.2
     go_simp
     try with_reducible rfl
   refine rdH 12 rfl (fun K hK=>?_)
   clear hS
   go_simp
   refine cM.out.mono ?_
   rintro e w5 ⟨hb5,hY,hN5⟩
   have hS5:Blk w5 hb #[.slice an n cn,.slice ap np cp,.slice asl (shK A B B.length).length csl,.slice (some ⟨br,orr,none⟩) rows.length cr,.map (some b0),vl] 90∧w5.cell? ⟨br,orr+i,none⟩=some (.slice a5 sr.length c5):=⟨(hb5.block _ hbx.lt).trans hbx,sB hb5 hcV⟩
   have hJ5:=Hd (hD.out.stay _ _ _ _ hJV.out hb5)
   clear cM hbx hcV hJV hb5
   cases hc:compat A B r sr with
   | false =>
    have he:=hN5 hc
    subst he
    have hL:=hJm.out hc
    rw[←hL]at hJ5
    clear hL
    replace hc:=Hd hc
    clear hY hN5 hJn hJm
    go_wp2_with fail
    refine hKo hK hS5 (fun hS=>?_)
    clear hK K hS5
    refine tkS [13,14,15,16,17,18,19] ?_
    iterate 7
     refine tkC ?_ rfl (fun w' hS=>?_) hS ?_
     rotate_left
     ·
      skip
      go_simp
      try with_reducible rfl
    refine wpAnyH_done (by kernel_rfl) ?_ _
    clear hS
    go_wp2
    go_roundw
    case rel=>exact⟨j+1,hj2.out,by go_num,by rw[hL2.out];exact hJ5⟩
    case measure=>have:=hj2.out;simp[intOf];omega
   | true =>
    obtain⟨a7,c7,he,hla7⟩:=hY hc
    subst he
    have hL:=hJn.out hc
    have cF:=Hd (hD.out.call w1 L1 w5 a7 c7 _ (shared A B r sr) hJ5.out hL9.out hla7)
    rw[←hL]at cF
    replace hL:=Hd hL
    replace hc:=Hd hc
    clear hY hN5 hJn hJm hla7
    generalize shared A B r sr=sh at *
    go_wp2_with fail
    refine hKo hK hS5 (fun hS=>?_)
    clear hK K hS5
    refine tkS [13,14,15,16,17,18,19] ?_
    iterate 7
     refine tkC ?_ rfl (fun w' hS=>?_) hS ?_
     rotate_left
     ·
      skip
      go_simp
      try with_reducible rfl
    refine wpAnyH_done (by kernel_rfl) ?_ _
    clear hS
    go_wp2_with fail
    rw[hD.out.known,Oper.upon_enter]
    refine cF.out.mono ?_
    rintro e w6 ⟨go,rfl,hgo,hst⟩
    cases go with
    |true=>
     have hJ6:=Hd (hgo rfl)
     clear hgo hst cF hJ5
     go_wp2
     go_roundw
     case rel=>exact⟨j+1,hj2.out,by go_num,by rw[hL2.out];exact hJ6⟩
     case measure=>have:=hj2.out;simp[intOf];omega
    |false=>
     have hU6:=Hd (hst rfl)
     clear hgo hst cF hJ5
     go_wp2
     refine bodyPost_ret (v:=.tuple #[]) (results_none rfl _ _ _) rfl ?_
     obtain⟨rest,hrest⟩:=hcut.out
     exact⟨rfl,w1,hb1.out,.inr ⟨L1,_,rest,by rw[hrest,hL.out,List.append_assoc];rfl,by rw[←hL.out];exact hU6.out⟩⟩
  ·have hji:¬(j:Int)<(ids.length:Int):=by omega
   obtain rfl:j=ids.length:=by omega
   rw[List.take_length]at hJ
   go_wp2
   go_end0
   exact⟨rfl,w1,hb1.out,.inl hJ.out⟩
theorem filterMap_same{α β:Type}(f g:α→Option β):∀l:List α,(∀x∈l,f x=g x)→l.filterMap f=l.filterMap g
 |[],_=>rfl
 |x::l,h=>by
  rw[List.filterMap_cons,List.filterMap_cons,h x (by simp),filterMap_same f g l (fun y hy=>h y (by simp[hy]))]
theorem encL_map{α:Type}(f g:α→V):∀l:List α,(∀x∈l,encV (f x)=encV (g x))→encL (l.map f)=encL (l.map g)
 |[],_=>rfl
 |x::l,h=>by
  rw[List.map_cons,List.map_cons,encL,encL,h x (by simp),encL_map f g l (fun y hy=>h y (by simp[hy]))]
theorem cells_map(A:List ByteArray)(C:List ByteArray)(r:List V):cellsJ r (C.map fun x=>A.idxOf x)=C.map (cellF A r):=by
 unfold cellsJ
 rw[List.map_map]
 rfl
theorem keys_apart{A B:List ByteArray}{r s:List V}{k k2:List UInt8}(h1:keyJ r ((comN A B).map fun x=>A.idxOf x)=some k)(h2:keyJ s ((comN A B).map fun x=>B.idxOf x)=some k2)(hc:compat A B r s=true):k2=k:=by
 unfold keyJ at h1 h2
 rw[cells_map]at h1 h2
 split at h1
 ·cases h1
 ·split at h2
  ·cases h2
  ·rename_i n1 n2
   injection h1 with h1
   injection h2 with h2
   rw[←h1,←h2]
   refine encL_map _ _ _ (fun x hx=>?_)
   have hb1:isN (cellF A r x)=false:=by
    cases h:isN (cellF A r x) with
    |false=>rfl
    |true=>exact absurd (List.any_eq_true.2 ⟨_,List.mem_map_of_mem hx,h⟩) n1
   have hb2:isN (cellF B s x)=false:=by
    cases h:isN (cellF B s x) with
    |false=>rfl
    |true=>exact absurd (List.any_eq_true.2 ⟨_,List.mem_map_of_mem hx,h⟩) n2
   obtain⟨hxB,hxA⟩:=mem_com.1 hx
   have h3:=List.all_eq_true.1 hc x hxB
   have h4:okC (cellF A r x) (cellF B s x)=true:=by simpa[hxA]using h3
   unfold okC at h4
   rw[hb1,hb2,Bool.false_or,Bool.false_or]at h4
   rw[(sameP_iff _ _).1 h4]
theorem near_parts(A B:List ByteArray)(r:List V)(rows:List (List V)):partsL A B r rows (nearZ rows ((comN A B).map fun x=>B.idxOf x) (keyJ r ((comN A B).map fun x=>A.idxOf x)))=partsL A B r rows (List.range rows.length):=by
 cases hk:keyJ r ((comN A B).map fun x=>A.idxOf x) with
 |none=>rfl
 | some k =>
  unfold nearZ nearL partsL
  rw[List.filterMap_filter]
  refine filterMap_same _ _ _ ?_
  intro i _
  generalize rows.getD i []=sr
  by_cases hc:compat A B r sr=true
  ·cases h2:keyJ sr ((comN A B).map fun x=>B.idxOf x) with
   |none=>simp
   |some k2=>
    have:=keys_apart hk h2 hc
    simp[this]
  ·simp[hc]
theorem parts_all(A B:List ByteArray)(r:List V)(rows:List (List V)):partsL A B r rows (List.range rows.length)=rows.filterMap fun s=>if compat A B r s=true then some (joinR A B r s,shared A B r s) else none:=by
 have h:rows=(List.range rows.length).map fun i=>rows.getD i []:=by
  apply List.ext_getElem (by simp)
  intro i h1 h2
  simp[h1]
 conv=>rhs;rw[h,List.filterMap_map]
 rfl
theorem parts_rows(A B:List ByteArray)(r:List V)(rows:List (List V)):(partsL A B r rows (List.range rows.length)).map (·.1)=rows.filterMap fun s=>if compat A B r s=true then some (joinR A B r s) else none:=by
 rw[parts_all,List.map_filterMap]
 refine filterMap_same _ _ _ ?_
 intro s _
 by_cases hc:compat A B r s=true<;>simp[hc]
def HashJ(N t:Nat)(names:Value)(S:Nat→Prop)(L:List (List V))(n0:Nat)(w1:World)(l:List (List V×Bool))(W:World):Prop:=
 ∃rv,Blk W t #[names,rv] 25∧MR W N (fun b=>S b∨(w1.heap.size≤b∧b<W.heap.size)) rv (L++l.map (·.1))∧Spared (fun b=>b=t∨S b) w1 W∧n0≤w1.heap.size
theorem hash_do(N:Nat)(hN:N≤1048576)(n:Nat)(w:World)(t:Nat)(names rv:Value)(S:Nat→Prop)(L:List (List V))(M:Nat)(hM:L.length+M≤1048576)(ht:Blk w t #[names,rv] 25)(hR:MR w N S rv L)(hSlt:∀b,S b→b<w.heap.size)(hSt:¬S t)
 (hkn:∀args W,(callFunc 23 args).run Tryz.prog W=.ok (.enter 23 args) W):
 DoW N n M w 23 #[.pointer (some ⟨t,0,none⟩)] (fun b=>b=t∨S b) (fun w1 l W=>HashJ N t names S L w.heap.size w1 l W) (fun _ _ _=>False) where
 known:=hkn
 start w1 hb:=by
  refine⟨rv,(hb.block _ ht.lt).trans ht,?_,⟨rfl,rfl,rfl,Nat.le_refl _,fun _ _ _=>rfl⟩,hb.size⟩
  rw[List.map_nil,List.append_nil]
  exact(hR.stay fun b hS hlt=>hb.block b hlt).mono fun b hS=>.inl hS
 stay w1 l W W' h hb:=by
  obtain⟨rv2,h1,h2,h3,h4⟩:=h
  refine⟨rv2,(hb.block _ h1.lt).trans h1,(h2.stay fun b hS hlt=>hb.block b hlt).mono fun b hS=>?_,h3.trans (Spared.ofBelow hb),h4⟩
  rcases hS with hS|hS
  ·exact .inl hS
  ·exact .inr ⟨hS.1,Nat.lt_of_lt_of_le hS.2 hb.size⟩
 spare w1 l W h:=by
  obtain⟨rv2,h1,h2,h3,h4⟩:=h
  exact h3
 call w1 l W a c x sh h hl hla:=by
  obtain⟨rv2,h1,h2,h3,h4⟩:=h
  have h5:=h3.size
  have h6:=ht.lt
  refine(hash1_any N hN W t names rv2 _ (fun b=>S b∨(w1.heap.size≤b∧b<W.heap.size)) _ x sh h1 h2 (fun b hb=>?_) (fun hb=>?_) hla ?_).mono ?_
  ·rcases hb with hb|hb
   ·have:=hSlt b hb
    omega
   ·exact hb.2
  ·rcases hb with hb|hb
   ·exact hSt hb
   ·have:=hb.1
    omega
  ·rw[List.length_append,List.length_map]
   omega
  ·rintro e W' ⟨rfl,rv3,g1,g2,g3⟩
   refine⟨true,rfl,fun _=>⟨rv3,g1,?_,?_,h4⟩,fun h=>by cases h⟩
   ·rw[List.map_append,List.map_cons,List.map_nil,←List.append_assoc]
    have h7:=g3.size
    refine g2.mono fun b hb=>?_
    rcases hb with(hb|hb)|hb
    ·exact .inl hb
    ·exact .inr ⟨hb.1,by have:=hb.2;omega⟩
    ·exact .inr ⟨by have:=hb.1;omega,hb.2⟩
   ·refine⟨g3.os.trans h3.os,g3.tape.trans h3.tape,g3.output.trans h3.output,Nat.le_trans h3.size g3.size,fun k hk hn=>(g3.block k (by omega) (fun hc=>?_)).trans (h3.block k hk hn)⟩
    rcases hc with hc|hc|hc
    ·exact hn (.inl hc)
    ·exact hn (.inr hc)
    ·have:=hc.1
     omega
theorem some1_any(w:World)(xv:Value)(sh bd fd:Bool)(bb fb:Nat)(hb:w.cell? ⟨bb,0,none⟩=some (.bool bd))(hf:w.cell? ⟨fb,0,none⟩=some (.bool fd))(hz:w.frozen? ⟨fb,0,none⟩=false):
 Calls Tryz.prog 62 #[xv,.bool sh,.pointer (some ⟨bb,0,none⟩),.pointer (some ⟨fb,0,none⟩)] w fun e w'=>e=.returned (.bool (!(sh||!bd)))∧w'=w.setCell ⟨fb,0,none⟩ (.bool (sh||!bd)):=by
 have hs:∀b:Bool,(w.setCell ⟨fb,0,none⟩ (.bool b)).cell? ⟨fb,0,none⟩=some (.bool b):=fun b=>World.cell?_setCell_same' w _ _ (by rw[hf];rfl)
 cases sh<;>cases bd<;>(
  go_enter Tryz.func62,Tryz.ntmps62
  go_wp2
  go_ret
  exact⟨rfl,rfl⟩)
def SomeJ(bb fb:Nat)(bd fd:Bool)(w1 W:World):Prop:=Blk W bb #[.bool bd] 4∧Blk W fb #[.bool fd] 4∧Spared (fun b=>b=fb) w1 W
theorem some_do(N n M:Nat)(w:World)(bb fb:Nat)(bd:Bool)(hne:bb≠fb)(hb:Blk w bb #[.bool bd] 4)(hf:Blk w fb #[.bool false] 4)
 (hkn:∀args W,(callFunc 62 args).run Tryz.prog W=.ok (.enter 62 args) W):
 DoW N n M w 62 #[.pointer (some ⟨bb,0,none⟩),.pointer (some ⟨fb,0,none⟩)] (fun b=>b=fb) (fun w1 l W=>SomeJ bb fb bd false w1 W∧∀p∈l,(p.2||!bd)=false) (fun w1 l W=>SomeJ bb fb bd true w1 W∧∃p∈l,(p.2||!bd)=true) where
 known:=hkn
 start w1 hw:=⟨⟨(hw.block _ hb.lt).trans hb,(hw.block _ hf.lt).trans hf,⟨rfl,rfl,rfl,Nat.le_refl _,fun _ _ _=>rfl⟩⟩,by simp⟩
 stay w1 l W W' h hw:=⟨⟨(hw.block _ h.1.1.lt).trans h.1.1,(hw.block _ h.1.2.1.lt).trans h.1.2.1,h.1.2.2.trans (Spared.ofBelow hw)⟩,h.2⟩
 spare w1 l W h:=h.1.2.2
 call w1 l W a c x sh h hl hla:=by
  obtain⟨⟨h1,h2,h3⟩,h4⟩:=h
  refine(some1_any W (.slice a n c) sh bd false bb fb (h1.cell 0 rfl) (h2.cell 0 rfl) (h2.free 0)).mono ?_
  rintro e W' ⟨rfl,rfl⟩
  have g1:=h1.set_other ⟨fb,0,none⟩ hne (.bool (sh||!bd))
  have g2:=h2.set 0 (.bool (sh||!bd))
  have g3:=h3.cell fb 0 rfl (.bool (sh||!bd))
  refine⟨_,rfl,fun hg=>?_,fun hg=>?_⟩
  ·have hg':(sh||!bd)=false:=by cases h9:(sh||!bd) with|false=>rfl|true=>rw[h9]at hg;cases hg
   rw[hg']at g1 g2 g3 ⊢
   refine⟨⟨g1,g2,g3⟩,fun p hp=>?_⟩
   rcases List.mem_append.1 hp with hp|hp
   ·exact h4 p hp
   ·rw[List.mem_singleton]at hp
    subst hp
    exact hg'
  ·have hg':(sh||!bd)=true:=by cases h9:(sh||!bd) with|true=>rfl|false=>rw[h9]at hg;cases hg
   rw[hg']at g1 g2 g3 ⊢
   exact⟨⟨g1,g2,g3⟩,(x,sh),by simp,hg'⟩
theorem known_hash1(args:Array Value)(W:World):(callFunc 23 args).run Tryz.prog W=.ok (.enter 23 args) W:=by kernel_rfl
theorem known_some1(args:Array Value)(W:World):(callFunc 62 args).run Tryz.prog W=.ok (.enter 62 args) W:=by kernel_rfl
end Go.Proofs.YtmpldjbdhbapbaaGreatDoor.tab
