/- Texts TabFull, TabUnP, TabZero, TabUnion, TabMayU, one behind the other. -/
import Derived.Test.YtmpldjbdhbapbaaGreatDoorTabJnA
import Derived.Laws.OwnMore
import Derived.Lib.AppendZerosOnto
import Derived.Test.YtmpldjbdhbapbaaGreatDoorTabSameA
set_option linter.unusedSimpArgs false
set_option linter.unusedVariables false
set_option maxRecDepth 100000
set_option maxHeartbeats 4000000
namespace Go.Proofs.YtmpldjbdhbapbaaGreatDoor.tab
open Go.ChangeShapes Go.WideShapes Go.ChangeAt Go.RowKit kit dec val
theorem lf_full(w:World)(N n:Nat)(hn:n≤N)(hN:N≤1048576)(S:Nat→Prop)(hS:S w.heap.size):LF (w.alloc (.cells (zeroCells n) 34)) N S (.slice (some ⟨w.heap.size,0,none⟩) n n) (List.replicate n nullV):=by
 refine .mk (List.replicate n (nullV,.slice none 0 0)) (fun _ _=>False) (by simp) (by simpa using hn) ?_ (fun g h=>by injection h with h;rw[←h];exact hS) (fun g h i hP=>hP) (fun _ _ h=>h.elim) (fun _ _ _ h=>h.elim) ?_ ?_
 ·have hz:rowL (List.replicate n (nullV,.slice none 0 0))=(zeroCells n).toList:=by
   apply List.ext_getElem?
   intro i
   by_cases hi:i<n * 6
   ·have h2:=rowL_at (List.replicate n (nullV,Value.slice none 0 0)) (i / 6) (by simp;omega) (i % 6) (Nat.mod_lt _ (by decide))
    rw[Nat.div_add_mod]at h2
    rw[h2]
    simp only[List.getElem_replicate]
    have h3:i % 6<6:=Nat.mod_lt _ (by decide)
    have h4:(zeroCells n).toList[i]? = #[Value.int .i64 0,.bool false,.int .i64 0,.string ByteArray.empty,.string ByteArray.empty,.slice none 0 0][i % 6]?:=by
     have h5:i % 6<6:=Nat.mod_lt _ (by decide)
     simp[zeroCells,madeCells,hi,h5]
    rw[h4]
    match i % 6,h3 with
    |0,_=>rfl
    |1,_=>rfl
    |2,_=>rfl
    |3,_=>rfl
    |4,_=>rfl
    |5,_=>rfl
   ·rw[List.getElem?_eq_none (by rw[rowL_len];simp;omega),List.getElem?_eq_none (by simp[zeroCells,size_madeCells];omega)]
  rw[hz,List.length_replicate]
  exact World.ownsRow_lit (e:=34) (size:=6) (base:=0) w (zeroCells n) n (Nat.zero_le _) (by unfold maxLen;omega) (by simp[zeroCells,size_madeCells])
 ·intro p hp
  rw[(List.mem_replicate.1 hp).2]
  unfold okV In64
  exact⟨by omega,by omega,Nat.zero_le _,Nat.zero_le _⟩
 ·intro j hj
  simp only[List.getElem_replicate]
  exact LF.nil _ _ _
theorem pad_row{A B:List ByteArray}(hA:A.Nodup){r:List V}(hr:r.length=A.length):r++List.replicate ((B.foldl addN A).length-r.length) nullV=(B.foldl addN A).map (cellF A r):=by
 obtain⟨m,hm⟩:=foldN_prefix B A
 have hn:=foldN_nodup B A hA
 rw[hm]at hn ⊢
 rw[List.map_append,cells_row hA hr,List.length_append,hr,show A.length+m.length-A.length=m.length by omega]
 congr 1
 symm
 rw[List.eq_replicate_iff]
 refine⟨by simp,fun v hv=>?_⟩
 obtain⟨x,hx,rfl⟩:=List.mem_map.1 hv
 rw[List.nodup_append]at hn
 exact cell_out hr fun h=>hn.2.2 x h x hx rfl
theorem cell_nulls(A:List ByteArray)(n:Nat)(x:ByteArray):cellF A (List.replicate n nullV) x=nullV:=by
 unfold cellF
 rw[List.getD_eq_getElem?_getD,List.getElem?_replicate]
 split<;>rfl
theorem joinR_nulls(A B:List ByteArray)(n:Nat)(s:List V):joinR A B (List.replicate n nullV) s=(B.foldl addN A).map (cellF B s):=by
 unfold joinR
 refine List.map_congr_left fun x _=>?_
 rw[cell_nulls]
 unfold orN
 rw[null_isN];rfl
theorem compat_nulls(A B:List ByteArray)(n:Nat)(s:List V):compat A B (List.replicate n nullV) s=true:=by
 unfold compat
 rw[List.all_eq_true]
 intro x _
 rw[cell_nulls]
 unfold okC
 rw[null_isN];simp
theorem rowB_nulls(n:Nat):rowB n (List.replicate n nullV)=true:=by
 unfold rowB
 rw[Bool.and_eq_true,decide_eq_true_eq,List.all_eq_true]
 exact⟨by simp,fun v hv=>by rw[(List.mem_replicate.1 hv).2];rfl⟩
def unionIJ(a b:Tab)(i j:Nat):List (List V):=
 (a.rows.take i).map (fun r=>(b.vars.foldl addN a.vars).map (cellF a.vars r))++(b.rows.take j).map (fun s=>(b.vars.foldl addN a.vars).map (cellF b.vars s))
theorem unionIJ_zero(a b:Tab):unionIJ a b 0 0=[]:=by simp[unionIJ]
theorem unionIJ_a(a b:Tab){i:Nat}(h:i<a.rows.length):unionIJ a b (i+1) 0=unionIJ a b i 0++[(b.vars.foldl addN a.vars).map (cellF a.vars a.rows[i])]:=by
 unfold unionIJ
 rw[List.take_succ_eq_append_getElem h,List.map_append,List.take_zero,List.map_nil,List.append_nil,List.append_nil]
 rfl
theorem unionIJ_b(a b:Tab)(i:Nat){j:Nat}(h:j<b.rows.length):unionIJ a b i (j+1)=unionIJ a b i j++[(b.vars.foldl addN a.vars).map (cellF b.vars b.rows[j])]:=by
 unfold unionIJ
 rw[List.take_succ_eq_append_getElem h,List.map_append,List.append_assoc]
 rfl
theorem unionIJ_end(a b:Tab)(h:(b.vars.foldl addN a.vars).length≤64):unionT a b=⟨b.vars.foldl addN a.vars,unionIJ a b a.rows.length b.rows.length⟩:=by
 unfold unionIJ unionT
 rw[if_pos h,List.take_length,List.take_length]
theorem unionIJ_len(a b:Tab)(i j:Nat):(unionIJ a b i j).length≤a.rows.length+b.rows.length:=by
 unfold unionIJ
 rw[List.length_append,List.length_map,List.length_map,List.length_take,List.length_take]
 omega
theorem run_append_zeros_room{P:Program}(w:World)(t tn ty e:TypeId)(i:TypeInfo)(z:Value)(kq kn:IntKind)(ht:P.underlying t=some (.slice e))(htn:P.underlying tn=some (.int kn))(hi:P.info? e=some i)(hz:i.zero=some z)
 (g sLen sCap:Nat)(cur:Array Value)(hg:w.heap[g]? = some (.cells cur e (0,0)))(k:Nat)(hs:0<i.size)(h63:(k:Int)≤9223372036854775807)(h48:k * i.bytes≤281474976710656)
 (news:List Value)(hnews:news=(Builtin.zeroCells z.cells k).toList)(h1:∀u∈news,u.oneCell'=true)(hl:news.length=k * i.size)(hroom:sLen+k≤sCap)(hfit:sLen * i.size+news.length≤cur.size):
 (Builtin.append_ #[t,tn] ty #[.slice (some ⟨g,0,none⟩) sLen sCap,.int kq k]).run P w =
  .ok (.slice (some ⟨g,0,none⟩) (sLen+k) sCap) (w.setRow g (cur.toList.take (sLen * i.size)++news++cur.toList.drop (sLen * i.size+news.length)).toArray):=by
 have hst:=run_storeCells_at P g (sLen * i.size) e news 0 cur w hg (by simpa using hfit) h1
 simp only[Nat.add_zero]at hst
 have hw:IntKind.i64.wrap (k:Int)=k:=by rw[IntKind.wrap_i64];omega
 have hw0:IntKind.i64.wrap 0=0:=by rw[IntKind.wrap_i64];omega
 have hneg:¬((k:Int)<0):=by omega
 have h48i:¬(281474976710656<(k:Int) * (i.bytes:Int)):=by
  rw[←Int.natCast_mul]
  omega
 rcases Nat.eq_zero_or_pos k with rfl|hk
 ·have hn:news=[]:=List.eq_nil_of_length_eq_zero (by rw[hl];omega)
  subst hn
  have hroom2:sLen≤sCap:=by omega
  have hself:=setRow_self w g cur e (0,0) hg
  simp[Builtin.append_,run_underlying ht,run_underlying htn,sizeOf,typeInfo,zeroValue,hi,hz,asInt,asIntOf,hw0,hroom2,storeCells,hself]
 ·have hns:¬(k * i.size=0):=Nat.mul_ne_zero (by omega) (by omega)
  rw[hnews]at hst
  simp[Builtin.append_,run_underlying ht,run_underlying htn,sizeOf,typeInfo,zeroValue,hi,hz,asInt,asIntOf,hw,hneg,hns,h48i,hroom,Addr.add_lit,hst,hnews]
theorem zero_row(n:Nat):rowL (List.replicate n (nullV,Value.slice none 0 0))=(zeroCells n).toList:=by
 apply List.ext_getElem?
 intro i
 by_cases hi:i<n * 6
 ·have h2:=rowL_at (List.replicate n (nullV,Value.slice none 0 0)) (i / 6) (by simp;omega) (i % 6) (Nat.mod_lt _ (by decide))
  rw[Nat.div_add_mod]at h2
  rw[h2]
  simp only[List.getElem_replicate]
  have h3:i % 6<6:=Nat.mod_lt _ (by decide)
  have h4:(zeroCells n).toList[i]? = #[Value.int .i64 0,.bool false,.int .i64 0,.string ByteArray.empty,.string ByteArray.empty,.slice none 0 0][i % 6]?:=by
   have h5:i % 6<6:=Nat.mod_lt _ (by decide)
   simp[zeroCells,madeCells,hi,h5]
  rw[h4]
  match i % 6,h3 with
  |0,_=>rfl
  |1,_=>rfl
  |2,_=>rfl
  |3,_=>rfl
  |4,_=>rfl
  |5,_=>rfl
 ·rw[List.getElem?_eq_none (by rw[rowL_len];simp;omega),List.getElem?_eq_none (by simp[zeroCells,size_madeCells];omega)]
theorem run_append_zeros_none{P:Program}(w:World)(t tn ty e:TypeId)(i:TypeInfo)(kq kn:IntKind)(ht:P.underlying t=some (.slice e))(htn:P.underlying tn=some (.int kn))(hi:P.info? e=some i):
 (Builtin.append_ #[t,tn] ty #[.slice none 0 0,.int kq 0]).run P w=.ok (.slice none 0 0) w:=by
 have hw0:IntKind.i64.wrap 0=0:=by rw[IntKind.wrap_i64];omega
 simp[Builtin.append_,run_underlying ht,run_underlying htn,sizeOf,typeInfo,hi,asInt,asIntOf,hw0]
theorem append_zeros{w:World}(ty:TypeId)(N:Nat)(hN:N≤1048576)(S:Nat→Prop)(v:Value)(l:List V)(hL:LF w N S v l)(hSlt:∀b,S b→b<w.heap.size)(k:Nat)(hlen:l.length+k≤N):
 ∃v' w',(Builtin.append_ #[32,3] ty #[v,.int .i64 k]).run Tryz.prog w=.ok v' w'∧LF w' N (fun b=>S b∨(w.heap.size≤b∧b<w'.heap.size)) v' (l++List.replicate k nullV)∧w.grownBy w' v.ownBlock∧(∀g,v.ownBlock=some g→S g):=by
 obtain⟨i0,hi,hz,hsz,hby⟩:=info_parts infoVal
 obtain⟨Z,hZ⟩:∃Z:Array Value,Z=(Value.agg #[.int .i64 0,.bool false,.int .i64 0,.string ByteArray.empty,.string ByteArray.empty,.slice none 0 0]).cells:=⟨_,rfl⟩
 have hZs:Z.size=6:=by rw[hZ];rfl
 cases hL with
 | mk ps P e hN1 own hS nb sub dis ok h =>
  subst e
  rw[List.length_map]at hlen
  obtain⟨ms,hms⟩:∃ms,ms=List.replicate k (nullV,Value.slice none 0 0):=⟨_,rfl⟩
  have hml:ms.length=k:=by rw[hms];simp
  have hnews:rowL ms=(Builtin.zeroCells Z k).toList:=by
   rw[hms,zero_row,hZ];rfl
  have hone:∀u∈rowL ms,u.oneCell'=true:=rowL_one ms fun p hp=>by rw[hms]at hp;rw[(List.mem_replicate.1 hp).2];rfl
  have hrl:(rowL ms).length=k * 6:=by rw[rowL_len,hml]
  have hlen2:(rowL ps++rowL ms).length=(ps.length+k) * 6:=by rw[List.length_append,rowL_len,hrl,Nat.add_mul]
  have hown:∀(v':Value) (w':World),(v'.ownBlock=v.ownBlock∨v'.ownBlock=some w.heap.size)→w'.ownsRow 0 34 6 v' (ps.length+k) (rowL ps++rowL ms)→w.grownBy w' v.ownBlock→LF w' N (fun b=>S b∨(w.heap.size≤b∧b<w'.heap.size)) v' (ps.map (·.1)++List.replicate k nullV):=fun v' w' hv ho hgr=>by
   have:=LF.pushed (w:=w) (w':=w') (N:=N) (S:=S) (v:=v) (v':=v') (ps:=ps) (ms:=ms) (Q:=P) (R:=fun _ _=>False) (by omega) hS nb sub dis ok h hSlt
    (fun j hj=>by subst hms;simp only[List.getElem_replicate];exact LF.nil _ _ _) (fun _ _ h=>h.elim) (fun _ _ _ h=>h.elim)
    (fun p hp=>by
     rw[hms]at hp
     rw[(List.mem_replicate.1 hp).2]
     unfold okV In64
     exact⟨by omega,by omega,Nat.zero_le _,Nat.zero_le _⟩) (by rw[hml];exact ho) hgr hv
   have e:ms.map (·.1)=List.replicate k nullV:=by rw[hms];simp
   rw[e]at this
   exact this.mono fun b hb=>by
    rcases hb with hb|⟨_,hb⟩|hb
    ·exact .inl hb
    ·exact hb.elim
    ·exact .inr hb
  have hgrow:∀(c:Nat) (row:Option Nat),
   (w.drew.alloc (.cells ((rowL ps).toArray++Builtin.zeroCells Z k++Builtin.zeroCells Z (grownCap w (ps.length+k) c 34-(ps.length+k))) 34)).ownsRow 0 34 6
    (.slice (some ⟨w.heap.size,0,none⟩) (ps.length+k) (grownCap w (ps.length+k) c 34)) (ps.length+k) (rowL ps++rowL ms) ∧
   w.grownBy (w.drew.alloc (.cells ((rowL ps).toArray++Builtin.zeroCells Z k++Builtin.zeroCells Z (grownCap w (ps.length+k) c 34-(ps.length+k))) 34)) row:=fun c row=>by
   have hge:=grownCap_ge w (ps.length+k) c 34
   have hcm2:=grownCap_le_maxLen w (ps.length+k) c 34 (by unfold maxLen;omega)
   generalize grownCap w (ps.length+k) c 34=C at *
   refine⟨⟨hlen2,.inr ⟨w.heap.size,_,_,rfl,Nat.zero_le _,heap_alloc_new w.drew _,hge,hcm2,?_,?_⟩⟩,⟨rfl,rfl,rfl,by simp,fun j hj _=>Below.heap_alloc w.drew _ j hj⟩⟩
   ·rw[Array.size_append,Array.size_append,List.size_toArray,size_zeroCells,size_zeroCells,rowL_len,hZs]
    omega
   ·rw[←hlen2,hnews]
    simp only[Array.toList_append]
    exact List.take_left
  rcases own.2 with⟨rfl,hn⟩|⟨g,c,cur,rfl,hbg,hg,hnc,hcm,hcs,htake⟩
  ·obtain rfl:ps=[]:=List.eq_nil_of_length_eq_zero hn
   rcases Nat.eq_zero_or_pos k with rfl|hk
   ·have hms0:ms=[]:=List.eq_nil_of_length_eq_zero hml
    refine⟨_,_,run_append_zeros_none w _ _ _ _ i0 .i64 .i64 Tryz.underlying32 Tryz.underlying3 hi,hown _ _ (.inl rfl) ?_ ⟨rfl,rfl,rfl,Nat.le_refl _,fun _ _ _=>rfl⟩,⟨rfl,rfl,rfl,Nat.le_refl _,fun _ _ _=>rfl⟩,fun g h=>by cases h⟩
    rw[hms0]
    exact World.ownsRow_nil _ _ _ _
   ·have hr:=Lib.run_append_nil_zeros (P:=Tryz.prog) w 32 3 ty 34 i0 _ .i64 .i64 Tryz.underlying32 Tryz.underlying3 hi hz k hk (by rw[hsz];decide) (by omega) (by rw[hby];omega)
    have hgr:=hgrow 0 (Value.ownBlock (.slice none 0 0))
    rw[←hZ]at hr
    simp only[rowL,List.length_nil,Nat.zero_add,List.nil_append,Array.empty_append]at hgr hown
    exact⟨_,_,hr,by simpa using hown _ _ (.inr rfl) hgr.1 hgr.2,hgr.2,fun g h=>by cases h⟩
  ·have hS0:∀j,(Value.slice (some ⟨g,0,none⟩) ps.length c).ownBlock=some j→S j:=hS
   by_cases hroom:ps.length+k≤c
   ·have hfit:ps.length * 6+(rowL ms).length≤cur.size:=by rw[hrl,hcs,←Nat.add_mul];exact Nat.mul_le_mul_right _ hroom
    have hr:=run_append_zeros_room (P:=Tryz.prog) w 32 3 ty 34 i0 _ .i64 .i64 Tryz.underlying32 Tryz.underlying3 hi hz g ps.length c cur hg k (by rw[hsz];decide) (by omega) (by rw[hby];omega) (rowL ms) (by rw[hnews,hZ]) hone (by rw[hsz];exact hrl) hroom (by rw[hsz];exact hfit)
    rw[hsz]at hr
    have hgr:w.grownBy (w.setRow g (cur.toList.take (ps.length * 6)++rowL ms++cur.toList.drop (ps.length * 6+(rowL ms).length)).toArray) (Value.slice (some ⟨g,0,none⟩) ps.length c).ownBlock:=⟨rfl,rfl,rfl,by simp,fun j _ hj=>setRow_other w g j _ (fun e=>hj (by simp[Value.ownBlock,e]))⟩
    refine⟨_,_,hr,hown _ _ (.inl rfl) ⟨hlen2,.inr ⟨g,c,_,rfl,Nat.zero_le _,setRow_heap w g cur _ _ _ hg,hroom,hcm,?_,?_⟩⟩ hgr,hgr,hS0⟩
    ·simp only[List.size_toArray,List.length_append,List.length_take,List.length_drop,Array.length_toList]
     omega
    ·rw[htake,←hlen2]
     exact List.take_left
   ·have hk:0<k:=by omega
    have hr:=Lib.run_append_grow_zeros (P:=Tryz.prog) w 32 3 ty 34 i0 _ .i64 .i64 Tryz.underlying32 Tryz.underlying3 hi hz (some ⟨g,0,none⟩) ps.length c (rowL ps) (by
     rw[hsz]
     exact run_firstCells_some (P:=Tryz.prog) w.drew 6 ps.length ⟨g,0,none⟩ ps.length c (rowL ps) own.1 (own.cells (g:=g) rfl)) k hk (by rw[hsz];decide) (by omega) (by omega) (by rw[hby];omega) (growslice_fits (by omega) (by rw[hby];omega))
    rw[←hZ]at hr
    have hgr:=hgrow c (Value.slice (some ⟨g,0,none⟩) ps.length c).ownBlock
    exact⟨_,_,hr,hown _ _ (.inr rfl) hgr.1 hgr.2,hgr.2,hS0⟩
theorem wp_padZ{w:World}{o:Oper}{a:Act}{K:Act→World→Prop}{Q:Exit→Act→World→Prop}(s x:Operand)
 (ho:o.op=.call { callee:=.builtin .append,args:=#[s,x],argTypes:=#[32,3] })
 (N:Nat)(hN:N≤1048576)(S:Nat→Prop)(v:Value)(l:List V)(hs:a.eval s=v)(hL:LF w N S v l)(hSlt:∀b,S b→b<w.heap.size)
 (k:Nat)(hx:a.eval x=.int .i64 (k:Int))(hlen:l.length+k≤N)
 (hK:∀v' w',LF w' N (fun b=>S b∨(w.heap.size≤b∧b<w'.heap.size)) v' (l++List.replicate k nullV)→w.grownBy w' v.ownBlock→(∀g,v.ownBlock=some g→S g)→K (a.put o.dst v') w'):
 o.wp Tryz.prog a w K Q:=by
 obtain⟨v',w',hr,h1,h2,h3⟩:=append_zeros o.type N hN S v l hL hSlt k hlen
 unfold Oper.wp execOp
 simp only[ho,resolve,invoke,builtin,Sem.run_bind,Sem.run_pure,Result.andThen_ok,List.map_toArray,List.map_cons,List.map_nil,hs,hx,hr]
 exact hK v' w' h1 h2 h3
open hyp (RowA TextsA CellsStay stay_of_below textsV textsV_length own_row)
def unionZ(A B:Tab):Tab:=if mayT A=true∧mayT B=true then unionT A B else⟨[],[]⟩
theorem union_any (N : Nat) (hN : N ≤ 1048576) (w : World) (hE : Env w) (va vb : Value) (A B : Tab) (hA : TabA w N va A) (hB : TabA w N vb B) (a1 : A.vars.length ≤ 100000) (a2 : A.rows.length ≤ 1048576) (b1 : B.vars.length ≤ 100000) (b2 : B.rows.length ≤ 1048576) (hN64 : 64 ≤ N) (hrs : A.rows.length + B.rows.length ≤ 1048575) :
 Calls Tryz.prog 10 #[va,vb] w fun e w'=>∃v,e=.returned v∧TabO w w' N v (unionZ A B):=by
 obtain⟨vv,rv,rfl,hV,hR⟩:=hA.ex
 obtain⟨vv2,rv2,rfl,hV2,hR2⟩:=hB.ex
 obtain⟨av,cv,rfl,-⟩:=hV.form
 obtain⟨av2,cv2,rfl,-⟩:=hV2.form
 obtain⟨ar,cr,rfl,-,-⟩:=hR.form
 obtain⟨ar2,cr2,rfl,-,-⟩:=hR2.form
 have hal:Below w.heap.size w (((w.alloc (.cells #[.slice av A.vars.length cv,.slice ar A.rows.length cr] 25)).alloc (.cells #[.slice av2 B.vars.length cv2,.slice ar2 B.rows.length cr2] 25)).alloc (.cells #[.slice none 0 0,.slice none 0 0] 25)):=
  (((Below.refl _ _).alloc (Nat.le_refl _) _).alloc (by rw[World.size_alloc];omega) _).alloc (by rw[World.size_alloc,World.size_alloc];omega) _
 have hq0:=((Blk.new w #[.slice av A.vars.length cv,.slice ar A.rows.length cr] 25).alloc (.cells #[.slice av2 B.vars.length cv2,.slice ar2 B.rows.length cr2] 25)).alloc (.cells #[.slice none 0 0,.slice none 0 0] 25)
 have hq1:=(Blk.new (w.alloc (.cells #[.slice av A.vars.length cv,.slice ar A.rows.length cr] 25)) #[.slice av2 B.vars.length cv2,.slice ar2 B.rows.length cr2] 25).alloc (.cells #[.slice none 0 0,.slice none 0 0] 25)
 have hq2:=Blk.new ((w.alloc (.cells #[.slice av A.vars.length cv,.slice ar A.rows.length cr] 25)).alloc (.cells #[.slice av2 B.vars.length cv2,.slice ar2 B.rows.length cr2] 25)) #[.slice none 0 0,.slice none 0 0] 25
 rw[World.size_alloc]at hq1 hq2
 rw[World.size_alloc]at hq2
 obtain⟨w1,hw1⟩:∃w1,(((w.alloc (.cells #[.slice av A.vars.length cv,.slice ar A.rows.length cr] 25)).alloc (.cells #[.slice av2 B.vars.length cv2,.slice ar2 B.rows.length cr2] 25)).alloc (.cells #[.slice none 0 0,.slice none 0 0] 25))=w1:=⟨_,rfl⟩
 have hs1:w1.heap.size=w.heap.size+3:=by rw[←hw1];simp
 rw[hw1]at hal hq0 hq1 hq2
 have hA1:=hA.stay hal
 have hB1:=hB.stay hal
 have hE1:=hE.below hal
 have hR1:=hR.stay hal
 have hR21:=hR2.stay hal
 have hsA:=Hd hV.size
 have hsB:=Hd hV2.size
 have cT:=together_any w1 _ _ A.vars B.vars (TextsA.below hV hal) (TextsA.below hV2 hal) a1 b1
 have cA:=Hd (fun V (h:Below w1.heap.size w1 V)=>checkT_any N (by omega) V (hE1.below h) _ A (hA1.stay h) (by omega) a2)
 have cB:=Hd (fun V (h:Below w1.heap.size w1 V)=>checkT_any N (by omega) V (hE1.below h) _ B (hB1.stay h) (by omega) b2)
 have x0:=hq0.cell 0 rfl
 have x1:=hq0.cell 1 rfl
 have y0:=hq1.cell 0 rfl
 have y1:=hq1.cell 1 rfl
 replace cT:=Hd cT
 replace hal:=Hd hal
 replace hq0:=Hd hq0
 replace hq1:=Hd hq1
 replace hq2:=Hd hq2
 replace hR1:=Hd hR1
 replace hR21:=Hd hR21
 replace hw1:=Hd hw1
 replace hs1:=Hd hs1
 clear hA hB hA1 hB1 hV hV2 hR hR2 hE hE1
 go_enter Tryz.func10,Tryz.ntmps10
 go_wp2_with fail
 rw[hw1.out]
 refine cT.out.mono ?_
 rintro e w2 ⟨v,rfl,vn,vp,rfl,hb2,hnm,hpl⟩
 clear cT
 obtain⟨an,cn,rfl⟩:=own_form4x hnm
 obtain⟨ap,cp,rfl⟩:=own_form4x hpl
 have hbA:=hb2.alloc hb2.size (.cells #[.slice an (B.vars.foldl addN A.vars).length cn,.slice ap (atN A.vars B.vars).length cp] 75)
 replace x0:=sB hbA x0
 replace x1:=sB hbA x1
 replace y0:=sB hbA y0
 replace y1:=sB hbA y1
 have cA2:=Hd (cA.out _ hbA)
 replace hbA:=Hd hbA
 replace hnm:=Hd hnm
 replace hpl:=Hd hpl
 have hb2s:=hb2.size
 replace hb2:=Hd hb2
 clear cA
 go_wp2_with fail
 refine cA2.out.mono ?_
 rintro e w3 ⟨rfl,hb3⟩
 replace x0:=sB hb3 x0
 replace x1:=sB hb3 x1
 replace y0:=sB hb3 y0
 replace y1:=sB hb3 y1
 have hbB:=hbA.out.trans (hb3.mono hbA.out.size)
 have cB2:=Hd (cB.out w3 hbB)
 have hp3:Hid (Blk w3 w2.heap.size #[.slice an (B.vars.foldl addN A.vars).length cn,.slice ap (atN A.vars B.vars).length cp] 75):=Hd ((hb3.block _ (by simp)).trans (Blk.new w2 #[.slice an (B.vars.foldl addN A.vars).length cn,.slice ap (atN A.vars B.vars).length cp] 75))
 replace hb3:=Hd hb3
 replace hbB:=Hd hbB
 clear cA2 cB
 have hq23:Blk w3 (w.heap.size+1+1) #[.slice none 0 0,.slice none 0 0] 25:=(hbB.out.block _ hq2.out.lt).trans hq2.out
 have f2:=Blk.free hq23
 have z0:=hq23.cell 0 rfl
 have z1:=hq23.cell 1 rfl
 cases hmA:mayT A with
 |false=>
  have hz:unionZ A B=⟨[],[]⟩:=by unfold unionZ;rw[hmA];simp
  replace hz:=Hd hz
  clear cB2
  go_wp2
  have q0:=hq23.set 0 (.slice none 0 0)
  have hfin:=q0.set 1 (.slice none 0 0)
  have hbf:=((hal.out.trans (hbB.out.mono hal.out.size)).setCell (p:=⟨w.heap.size+1+1,0,none⟩) (by simp;omega) (.slice none 0 0)).setCell (p:=⟨w.heap.size+1+1,1,none⟩) (by simp;omega) (.slice none 0 0)
  refine bodyPost_ret (v:=.agg #[.slice none 0 0,.slice none 0 0]) (results_cell_row rfl _ _ (w.heap.size+1+1) 25 _ (0,0) _ rfl hfin.eq Tryz.underlying25 rfl infoTab) rfl ⟨_,rfl,?_⟩
  rw[hz.out]
  exact tabO_zero hbf
 | true =>
  go_wp2_with fail
  refine cB2.out.mono ?_
  rintro e w4 ⟨rfl,hb4⟩
  replace x0:=sB hb4 x0
  replace x1:=sB hb4 x1
  replace y0:=sB hb4 y0
  replace y1:=sB hb4 y1
  have hbC:=hbB.out.trans (hb4.mono hbB.out.size)
  have hp4:Hid (Blk w4 w2.heap.size #[.slice an (B.vars.foldl addN A.vars).length cn,.slice ap (atN A.vars B.vars).length cp] 75):=Hd ((hb4.block _ hp3.out.lt).trans hp3.out)
  have hq24:Blk w4 (w.heap.size+1+1) #[.slice none 0 0,.slice none 0 0] 25:=(hb4.block _ hq23.lt).trans hq23
  replace hb4:=Hd hb4
  replace hbC:=Hd hbC
  clear cB2 f2 z0 z1 hq23
  have f2:=Blk.free hq24
  have z0:=hq24.cell 0 rfl
  have z1:=hq24.cell 1 rfl
  have hq0:=hq24.set 0 (.slice none 0 0)
  have hfin:=hq0.set 1 (.slice none 0 0)
  have hbf:=((hal.out.trans (hbC.out.mono hal.out.size)).setCell (p:=⟨w.heap.size+1+1,0,none⟩) (by simp;omega) (.slice none 0 0)).setCell (p:=⟨w.heap.size+1+1,1,none⟩) (by simp;omega) (.slice none 0 0)
  have p0:=hp4.out.cell 0 rfl
  have p1:=hp4.out.cell 1 rfl
  cases hmB:mayT B with
  |false=>
   have hz:unionZ A B=⟨[],[]⟩:=by unfold unionZ;rw[hmB];simp
   replace hz:=Hd hz
   go_wp2
   refine bodyPost_ret (v:=.agg #[.slice none 0 0,.slice none 0 0]) (results_cell_row rfl _ _ (w.heap.size+1+1) 25 _ (0,0) _ rfl hfin.eq Tryz.underlying25 rfl infoTab) rfl ⟨_,rfl,?_⟩
   rw[hz.out]
   exact tabO_zero hbf
  | true =>
   by_cases h64:(B.vars.foldl addN A.vars).length≤64
   ·have h64i : ¬ (64 : Int) < ((B.vars.foldl addN A.vars).length : Int) := by omega
    clear hfin hbf hq0 p0 p1 f2 z0 z1
    obtain⟨hnA,hrA⟩:=may_rows hmA
    obtain⟨hnB,hrB⟩:=may_rows hmB
    obtain⟨-,-,hdA⟩:=names_parts hnA
    obtain⟨-,-,hdB⟩:=names_parts hnB
    have hz:unionZ A B=⟨B.vars.foldl addN A.vars,unionIJ A B A.rows.length B.rows.length⟩:=by unfold unionZ;rw[hmA,hmB,unionIJ_end A B h64];simp
    replace hz:=Hd hz
    have hsz:∀s∈B.vars.foldl addN A.vars,s.size≤maxLen:=fun s hs=>by
     rcases(mem_foldN B.vars A.vars).1 hs with h|h
     ·exact hsA.out s h
     ·exact hsB.out s h
    have own4:=Hd (own_keep (own_keep (hnm.out.alloc _) hb3.out) hb4.out)
    have pl4:Hid (RowA w4 w4.heap.size (.slice ap (atN A.vars B.vars).length cp) (numsN (atN A.vars B.vars))):=Hd (own_row (by rw[numsN_length];exact own_keep (own_keep (hpl.out.alloc _) hb3.out) hb4.out))
    have hR4:=Hd (hR1.out.stay hbC.out)
    have hR24:=Hd (hR21.out.stay hbC.out)
    have hJ0:=Hd (JnW.start w4 N (.slice an (B.vars.foldl addN A.vars).length cn))
    have hB4:=Hd (hal.out.trans (hbC.out.mono hal.out.size))
    have hq24b:=Hd hq24
    have hs1b:=hs1.out
    have hp40:=hp4.out.cell 0 rfl
    have hp4lt:=hp4.out.lt
    have hp41:=hp4.out.cell 1 rfl
    have x0b:=Hd x0
    have x1b:=Hd x1
    have y1b:=Hd y1
    have hq24lt:=hq24.lt
    rw[←unionIJ_zero A B]at hJ0
    obtain⟨n,hn⟩:∃n,(B.vars.foldl addN A.vars).length=n:=⟨_,rfl⟩
    have hn64:n≤64:=by omega
    clear hq24 hal hbA hbB hbC hnm hpl hq0 hq1 hq2 hb2 hb3 hb4 hR1 hR21 hw1 hs1 hp3
    rw[hn]at own4 hJ0 hp4 hp40 h64i ⊢
    replace hn:=Hd hn
    have hdA2:=Hd hdA
    have hdB2:=Hd hdB
    have hrA2:=Hd hrA
    have hrB2:=Hd hrB
    have hsz2:=Hd hsz
    clear hdA hdB hrA hrB hsz hnA hnB
    have hRA:Hid (∀j (hj:j<A.rows.length),∃b off a c,ar=some ⟨b,off,none⟩∧b<w4.heap.size∧w4.cell? ⟨b,off+j,none⟩=some (.slice a A.rows[j].length c)∧LA w4 N (.slice a A.rows[j].length c) A.rows[j]):=Hd (by
     obtain⟨_,_,e,-,h⟩:=hR4.out.form
     injection e with e1 _ _
     subst e1
     exact h)
    have hRB:Hid (∀j (hj:j<B.rows.length),∃b off a c,ar2=some ⟨b,off,none⟩∧b<w4.heap.size∧w4.cell? ⟨b,off+j,none⟩=some (.slice a B.rows[j].length c)∧LA w4 N (.slice a B.rows[j].length c) B.rows[j]):=Hd (by
     obtain⟨_,_,e,-,h⟩:=hR24.out.form
     injection e with e1 _ _
     subst e1
     exact h)
    obtain⟨wb,rfl⟩:∃wb:World,wb=w4:=⟨_,rfl⟩
    clear hR4 hR24 x0 y0 y1
    replace x1:=sB hJ0.out.below x1
    have hAl:=foldN_prefix B.vars A.vars
    have hAn:A.vars.length≤n:=by
     obtain⟨m,hm⟩:=hAl
     rw[←hn.out,hm,List.length_append];omega
    clear hAl
    obtain⟨p2,hp2⟩:∃p2,w2.heap.size=p2:=⟨_,rfl⟩
    rw[hp2]at hp4 hp40 hp4lt hp41
    go_wp2
    try rw[hp2]
    replace hp2:=Hd hp2
    go_loopw [40] (fun i wr=>∃(k:Nat) (rv:Value),k≤A.rows.length∧i=.int .i64 (k:Int)∧Hid (JnW wb wr N (.slice an n cn) rv (unionIJ A B k 0))) (fun i _=>A.rows.length-(intOf i).toNat)
    case atStart=>exact⟨0,_,Nat.zero_le _,rfl,hJ0⟩
    case round =>
     clear hJ0
     obtain⟨i,rv,hi,rfl,hJ⟩:=hrel
     obtain⟨wv,rfl⟩:∃w5:World,w5=wr:=⟨_,rfl⟩
     by_cases hlt:i<A.rows.length
     ·have hki:(i:Int)<(A.rows.length:Int):=by omega
      have hi1:=Hd (show i+1≤A.rows.length from hlt)
      obtain⟨b1,o1,a3,c1,rfl,hb1,hcell,hla1⟩:=hRA.out i hlt
      replace hcell:=sB hJ.out.below hcell
      have hrw:=row_len (hrA2.out _ (List.getElem_mem hlt))
      have hnext:=Hd (unionIJ_a A B hlt)
      have hpad:=Hd (pad_row (B:=B.vars) hdA2.out hrw)
      rw[hn.out]at hpad
      have hlen:(unionIJ A B i 0).length+1≤1048576:=by have:=unionIJ_len A B i 0;omega
      have hla:=Hd (hla1.stay hJ.out.below)
      have hsub:IntKind.i64.wrap ((n:Int)-(A.rows[i].length:Int))=((n-A.rows[i].length:Nat):Int):=by
       rw[IntWalk.i64_in _ (by omega)];omega
      have hsubn:A.rows[i].length+(n-A.rows[i].length)≤N:=by omega
      have hp4v:=sB hJ.out.below hp40
      replace hrw:=Hd hrw
      clear hla1
      have x1z:=x1
      clear x1
      generalize unionIJ A B i 0=L1 at *
      generalize A.rows[i]=x at *
      go_wp2
      go_upto_region 8 with fail
      have hal:Below wv.heap.size wv wv.drew:=below_drewN (Below.refl _ _) 1
      have hJV:=hJ.out.stay hal
      have hMV:=hJ.out.rows.stay (fun b hS hlt=>hal.block b hlt)
      have hlaV:=hla.out.stay hal
      have htlt:=hJ.out.tb.lt
      have hwV:wv.drew.heap.size=wv.heap.size:=rfl
      obtain⟨q0,hq0⟩:∃q0,wv.heap.size=q0:=⟨_,rfl⟩
      have hS0:Blk wv.drew wb.heap.size #[.slice an n cn,rv] 25∧wv.drew.cell? ⟨p2,0,none⟩=some (.slice an n cn):=⟨hJV.tb,hp4v⟩
      refine wp_region_late [14] (S:=fun V=>Blk V wb.heap.size #[.slice an n cn,rv] 25∧V.cell? ⟨p2,0,none⟩=some (.slice an n cn)) (by kernel_rfl) hS0 (fun hS=>?_)
      have hV:=hS0
      clear hS0 hal hJ hla hp4v hcell
      rw[hq0]at hMV hwV htlt
      generalize wv.drew=V0 at *
      have hcall:=Hd (row_any N (by omega) V0 _ _ hlaV)
      refine tlH 0 ?_ rfl (fun w' hS=>?_) hS ?_
      rotate_left
      ·
       skip
       go_simp
       try with_reducible rfl
      refine tlH 1 ?_ rfl (fun w' hS=>?_) hS ?_
      rotate_left
      ·
       have z0:=hS.1.cell 0 rfl;have z1:=hS.1.cell 1 rfl
       go_simp
       try with_reducible rfl
      refine tlS [2,4] ?_
      iterate 2
       refine tlC ?_ rfl (fun w' hS=>?_) hS ?_
       rotate_left
       ·
        skip
        go_simp
        try with_reducible rfl
      refine tlH 5 ?_ rfl (fun w' hS=>?_) hS ?_
      rotate_left
      ·
       have z2:=hS.2
       go_simp
       try with_reducible rfl
      refine tlS [6,7,8,9] ?_
      iterate 4
       refine tlC ?_ rfl (fun w' hS=>?_) hS ?_
       rotate_left
       ·
        skip
        go_simp
        try with_reducible rfl
      refine wpAnyL_ready (i:=3) (by kernel_rfl) rfl (fun K hK=>?_)
      clear hS
      go_simp
      refine(hcall.out).mono ?_
      rintro e w5 ⟨a9,c9,rfl,hb5,hl5⟩
      go_wp2_with fail
      refine hKo hK (⟨(hb5.block _ hV.1.lt).trans hV.1,sB hb5 hV.2⟩) (fun hS=>?_)
      clear hK K
      have hJ5:=hJV.stay hb5
      have hM5:=hMV.stay (fun b hS hlt=>hb5.block b hlt)
      have hs5:=hb5.size
      have hV5:=sB hb5 hV.2
      clear hcall hV hJV hMV hlaV
      refine wpAnyL_ready (i:=10) (by kernel_rfl) rfl (fun K hK=>?_)
      clear hS
      refine wp_padZ (.tmp 47) (.tmp 53) rfl N hN (Fr V0.heap.size w5) _ _ rfl hl5 (fun b hb=>hb.2) (n-x.length) rfl hsubn ?pz
      intro v8 w8 hl8 hg8 hv8
      have hgs8:=hg8.size
      have hlow:∀b,b<q0→w8.heap[b]? = w5.heap[b]?:=fun b hb=>hg8.block b (by omega) (fun e=>by have:=(hv8 _ e.symm).1;omega)
      have hlow8:Below q0 w5 w8:=⟨hg8.os,hg8.tape,hg8.output,hg8.size,hlow⟩
      obtain⟨y,hy⟩:∃y,x++List.replicate (n-x.length) nullV=y:=⟨_,rfl⟩
      rw[hy]at hl8
      obtain⟨a8,c8,hv8f,-⟩:=hl8.form
      subst hv8f
      have hM8:=hM5.stay (fun b hb _=>hlow b hb.2)
      have hJ8:JnW wb w8 N (.slice an n cn) rv L1:=⟨hJ5.below.trans (hlow8.mono (by omega)),(hlow _ htlt).trans hJ5.tb,hM8.mono fun b hb=>⟨hb.1,by have:=hb.2;omega⟩⟩
      have hp2q:p2<q0:=by omega
      have hp8:w8.cell? ⟨p2,0,none⟩=some (.slice an n cn):=(World.cell?_of_block (hlow p2 hp2q)).trans hV5
      refine hKo hK ⟨hJ8.tb,hp8⟩ (fun hS=>?_)
      clear hK K hJ5 hM5 hV5 hl5 hb5 hg8 hv8
      refine wpAnyL_ready (i:=11) (by kernel_rfl) rfl (fun K hK=>?_)
      clear hS
      go_simp
      go_wp2_with fail
      have hal:=((Below.refl w8.heap.size w8).alloc (Nat.le_refl _) (.cells #[.slice a8 y.length c8] 32))
      have hJ9:=hJ8.stay hal
      have hM9:=hM8.stay (fun b hS hlt=>hal.block b hlt)
      have hl9:=hl8.stay (fun b hS hlt=>hal.block b hlt)
      have hs9:=World.size_alloc w8 (.cells #[.slice a8 y.length c8] 32)
      have hn9:(w8.alloc (.cells #[.slice a8 y.length c8] 32)).cell? ⟨w8.heap.size,0,none⟩=some (.slice a8 y.length c8):=(Blk.new w8 #[.slice a8 y.length c8] 32).cell 0 rfl
      have hp9:=sB hal hp8
      refine hKo hK ⟨hJ9.tb,hp9⟩ (fun hS=>?_)
      clear hK K hJ8 hM8 hl8
      refine wpAnyL_ready (i:=12) (by kernel_rfl) rfl (fun K hK=>?_)
      clear hS
      refine wp_pushR (.tmp 45) (.tmp 55) rfl N (fun b=>wb.heap.size<b∧b<q0) (fun b=>Fr V0.heap.size w5 b∨(w5.heap.size≤b∧b<w8.heap.size)) _ _ rfl hM9 ?e2 w8.heap.size _ (.slice a8 y.length c8) rfl hn9 hl9 ?e3 hlen ?e5
      case e2=>intro b hb;rw[hs9];have:=hb.2;omega
      case e3=>
       intro b hb
       rw[hs9]
       rcases hb with hb|hb
       ·exact⟨by have:=hb.2;omega,fun h=>by have:=h.2;have:=hb.1;omega⟩
       ·exact⟨by omega,fun h=>by have:=h.2;omega⟩
      intro v' w' hM' hg hvS
      have hgs:=hg.size
      rw[hs9]at hgs
      have hJ8:=Hd (hJ9.push hM' hg (fun g e=>by have:=hvS g e;exact⟨this.1,by rw[hs9];omega⟩) (fun b hb=>⟨hb.1,by have:=hb.2;omega⟩) (fun b hb=>by
       rcases hb with hb|hb
       ·exact⟨by have:=hb.1;omega,by have:=hb.2;omega⟩
       ·exact⟨by omega,by omega⟩))
      have hV7:Blk w' wb.heap.size _ _:=(hg.block _ hJ9.tb.lt (fun e=>by have:=(hvS _ e.symm).1;omega)).trans hJ9.tb
      have hp7:w'.cell? ⟨p2,0,none⟩=some (.slice an n cn):=(World.cell?_of_block (hg.block p2 (by rw[hs9];omega) (fun e=>by have:=(hvS _ e.symm).1;omega))).trans hp9
      obtain⟨ao7,cap7,hv7⟩:=hM'.form
      rw[List.length_append,List.length_singleton]at hv7
      subst hv7
      refine hKo hK ⟨hV7,hp7⟩ (fun hS=>?_)
      clear hK K hJ9 hM9 hl9 hn9 hM' hg hvS hp7 hp9
      refine tlH 13 ?_ rfl (fun w' hS=>?_) hS ?_
      rotate_left
      ·
       skip
       go_simp
       try with_reducible rfl
      refine wpAnyL_late (i:=14) (by kernel_rfl) rfl (by kernel_rfl) (fun K hK=>?_)
      clear hS
      have f1:=hV7.free 1
      have z0:=hV7.cell 0 rfl
      have z1:=hV7.cell 1 rfl
      go_simp
      go_wp2_with fail
      refine hK.out _ _ ?_
      clear hK K f1 hV7 z0 z1
      try simp only[List.getElem_toArray,List.getElem_cons_succ,List.getElem_cons_zero,Act.put,List.setIfInBounds_toArray,List.set_cons_zero,List.set_cons_succ]
      refine wpAnyL_done (by kernel_rfl) ?_ _
      subst hy
      rw[hpad.out,←hnext.out]at hJ8
      have x1:=x1z
      go_wp2
      go_roundw
      case rel=>exact⟨i+1,_,hi1.out,by go_num,hJ8⟩
      case measure=>have:=hi1.out;simp[intOf];omega
     ·have hki:¬(i:Int)<(A.rows.length:Int):=by omega
      obtain rfl:i=A.rows.length:=by omega
      have hJs:=hJ
      have y1c:=sB hJ.out.below y1b.out
      clear hJ
      go_wp2
      go_loopw [62] (fun j wr=>∃(k:Nat) (rv:Value),k≤B.rows.length∧j=.int .i64 (k:Int)∧Hid (JnW wb wr N (.slice an n cn) rv (unionIJ A B A.rows.length k))) (fun j _=>B.rows.length-(intOf j).toNat)
      case atStart=>exact⟨0,_,Nat.zero_le _,rfl,hJs⟩
      case round=>
       clear hJs y1c
       obtain⟨j,rv,hj,rfl,hJ⟩:=hrel
       by_cases hlj:j<B.rows.length
       ·have hji:(j:Int)<(B.rows.length:Int):=by omega
        have hj1:=Hd (show j+1≤B.rows.length from hlj)
        obtain⟨b2,o2,a2,c2,rfl,hb2,hcell2,hla2⟩:=hRB.out j hlj
        replace hcell2:=sB hJ.out.below hcell2
        have hrs:=hrB2.out _ (List.getElem_mem hlj)
        have hnext:=Hd (unionIJ_b A B A.rows.length hlj)
        have hlen:(unionIJ A B A.rows.length j).length+1≤1048576:=by have:=unionIJ_len A B A.rows.length j;omega
        unfold rowB at hrs
        rw[Bool.and_eq_true,decide_eq_true_eq,List.all_eq_true]at hrs
        have hal:Below wr.heap.size wr wr.drew:=below_drewN (Below.refl _ _) 1
        have hJV:=Hd (hJ.out.stay hal)
        have hbV:=hJ.out.below.trans (hal.mono hJ.out.below.size)
        have hmk:=make_vals A.vars.length A.vars.length (Nat.le_refl _) (by omega) wr.drew
        have hal2:Below wr.drew.heap.size wr.drew (wr.drew.alloc (.cells (zeroCells A.vars.length) 34)):=(Below.refl _ _).alloc (Nat.le_refl _) _
        have hbW:=hbV.trans (hal2.mono hbV.size)
        have hz1:=(lf_full wr.drew N A.vars.length (by omega) hN (fun _=>True) trivial).toLA
        have hcJ:=joined_any N (by omega) (wr.drew.alloc (.cells (zeroCells A.vars.length) 34)) A.vars B.vars (List.replicate A.vars.length nullV) B.rows[j] an n cn _ _ _ hdA2.out hdB2.out (rowB_nulls _) hrs.1 hrs.2 hn.out (by omega) ((pl4.out.stay (stay_of_below hbW)).mono hbW.size) hz1 (hla2.stay hbW)
        unfold JdP at hcJ
        rw[joinR_nulls]at hcJ
        have hcn:=Hd (compat_nulls A.vars B.vars A.vars.length B.rows[j])
        have hp0:=Hd (sB hbV hp40)
        have hp1:=Hd (sB hbV hp41)
        have hx0:=Hd (sB hbV x0b.out)
        replace hcJ:=Hd hcJ
        clear hrs hla2 hz1 hbV hbW hal hJ
        generalize unionIJ A B A.rows.length j=L1 at *
        generalize B.rows[j]=s at *
        go_wp2
        go_upto_region 13 with fail
        refine wp_region_held_drew (S:=fun V=>Below wr.drew.heap.size wr.drew V) (by kernel_rfl) (Below.refl _ _) (fun hS=>?_)
        generalize wr.drew=V0 at *
        refine tkS [0,1,2,3,5] ?_
        iterate 5
         refine tkC ?_ rfl (fun w' hS=>?_) hS ?_
         rotate_left
         ·
          have y0:=sB hS hp0.out;have y1:=sB hS hp1.out;have y2:=sB hS hx0.out
          go_simp
          try with_reducible rfl
        refine rdH 4 rfl (fun K hK=>?_)
        clear hS
        go_simp
        go_wp2_with fail
        refine hKo hK hal2 (fun hS=>?_)
        clear hK K hmk
        refine rdH 6 rfl (fun K hK=>?_)
        clear hS
        go_simp
        refine(hcJ.out).mono ?_
        rintro e wv ⟨hb7,hY,-⟩
        obtain⟨a3,c3,rfl,hla3⟩:=hY hcn.out
        clear hY
        go_wp2_with fail
        have hb8:=hal2.trans (hb7.mono hal2.size)
        refine hKo hK hb8 (fun hS=>?_)
        clear hK K
        refine tkS [7,8,9,10,11,12,13] ?_
        iterate 7
         refine tkC ?_ rfl (fun w' hS=>?_) hS ?_
         rotate_left
         ·
          skip
          go_simp
          try with_reducible rfl
        refine wpAnyH_done (by kernel_rfl) ?_ _
        clear hS
        have hJ:=Hd (hJV.out.stay hb8)
        obtain⟨q0,hq⟩:∃q0,q0=V0.heap.size:=⟨_,rfl⟩
        have hM0:Hid (MR wv N (fun b=>wb.heap.size<b∧b<q0) rv L1):=Hd (by rw[hq];exact hJV.out.rows.stay fun b hS hlt=>hb8.block b hlt)
        have hq0:q0≤wv.heap.size:=by rw[hq];exact hb8.size
        have hla:=Hd hla3
        replace hq:=Hd hq
        obtain⟨x,hx⟩:∃x,(B.vars.foldl addN A.vars).map (cellF B.vars s)=x:=⟨_,rfl⟩
        rw[hx]at hla hnext
        clear hJV hb7 hb8 hal2 hla3 hcJ hcn hp0 hp1 hx0 hcell2
        replace hx:=Hd hx
        go_wp2
        go_upto_region 14 with fail
        have hal:Below wv.heap.size wv wv.drew:=below_drewN (Below.refl _ _) 1
        have hJV:=hJ.out.stay hal
        have hMV:=hM0.out.stay (fun b hS hlt=>hal.block b hlt)
        have hlaV:=hla.out.stay hal
        have htlt:=hJ.out.tb.lt
        have hwV:wv.drew.heap.size=wv.heap.size:=rfl
        have hS0:Blk wv.drew wb.heap.size #[.slice an n cn,rv] 25∧∀b,q0≤b→b<wv.heap.size→wv.drew.heap[b]? = wv.heap[b]?:=⟨hJV.tb,fun _ _ _=>rfl⟩
        refine wp_region_late [7] (S:=fun V=>Blk V wb.heap.size #[.slice an n cn,rv] 25∧∀b,q0≤b→b<wv.heap.size→V.heap[b]? = wv.heap[b]?) (by kernel_rfl) hS0 (fun hS=>?_)
        have hV:=hS0
        clear hS0 hal hJ hla hM0
        generalize wv.drew=V0 at *
        have hcall:=Hd (row_any N (by omega) V0 _ _ hlaV)
        refine tlH 0 ?_ rfl (fun w' hS=>?_) hS ?_
        rotate_left
        ·
         skip
         go_simp
         try with_reducible rfl
        refine tlH 1 ?_ rfl (fun w' hS=>?_) hS ?_
        rotate_left
        ·
         have z0:=hS.1.cell 0 rfl;have z1:=hS.1.cell 1 rfl
         go_simp
         try with_reducible rfl
        refine tlH 2 ?_ rfl (fun w' hS=>?_) hS ?_
        rotate_left
        ·
         skip
         go_simp
         try with_reducible rfl
        refine wpAnyL_ready (i:=3) (by kernel_rfl) rfl (fun K hK=>?_)
        clear hS
        go_simp
        refine(hcall.out).mono ?_
        rintro e w5 ⟨a9,c9,rfl,hb5,hl5⟩
        go_wp2_with fail
        refine hKo hK (⟨(hb5.block _ hV.1.lt).trans hV.1,fun b h1 h2=>(hb5.block b (by omega)).trans (hV.2 b h1 h2)⟩) (fun hS=>?_)
        clear hK K
        have hJ5:=hJV.stay hb5
        have hM5:=hMV.stay (fun b hS hlt=>hb5.block b hlt)
        have hs5:=hb5.size
        have hV5:∀b,q0≤b→b<wv.heap.size→w5.heap[b]? = wv.heap[b]?:=fun b h1 h2=>(hb5.block b (by omega)).trans (hV.2 b h1 h2)
        clear hcall hV hJV hMV hlaV
        refine wpAnyL_ready (i:=4) (by kernel_rfl) rfl (fun K hK=>?_)
        clear hS
        go_simp
        go_wp2_with fail
        have hal:=((Below.refl w5.heap.size w5).alloc (Nat.le_refl _) (.cells #[.slice a9 x.length c9] 32))
        have hJ6:=hJ5.stay hal
        have hM6:=hM5.stay (fun b hS hlt=>hal.block b hlt)
        have hl6:=hl5.stay (fun b hS hlt=>hal.block b hlt)
        have hs6:=World.size_alloc w5 (.cells #[.slice a9 x.length c9] 32)
        have hn6:(w5.alloc (.cells #[.slice a9 x.length c9] 32)).cell? ⟨w5.heap.size,0,none⟩=some (.slice a9 x.length c9):=(Blk.new w5 #[.slice a9 x.length c9] 32).cell 0 rfl
        have hV6:∀b,q0≤b→b<wv.heap.size→(w5.alloc (.cells #[.slice a9 x.length c9] 32)).heap[b]? = wv.heap[b]?:=fun b h1 h2=>(hal.block b (by omega)).trans (hV5 b h1 h2)
        refine hKo hK ⟨hJ6.tb,hV6⟩ (fun hS=>?_)
        clear hK K hJ5 hM5 hl5 hV5 hb5
        refine wpAnyL_ready (i:=5) (by kernel_rfl) rfl (fun K hK=>?_)
        clear hS
        refine wp_pushR (.tmp 78) (.tmp 81) rfl N (fun b=>wb.heap.size<b∧b<q0) (Fr V0.heap.size w5) _ _ rfl hM6 ?d2 w5.heap.size _ (.slice a9 x.length c9) rfl hn6 hl6 ?d3 hlen ?d5
        case d2=>intro b hb;rw[hs6];have:=hb.2;omega
        case d3=>intro b hb;exact⟨by rw[hs6];have:=hb.2;omega,fun h=>by have:=h.2;have:=hb.1;omega⟩
        intro v' w' hM' hg hvS
        have hgs:=hg.size
        rw[hs6]at hgs
        have hJ8:=Hd (hJ6.push hM' hg (fun g e=>by have:=hvS g e;exact⟨this.1,by rw[hs6];omega⟩) (fun b hb=>⟨hb.1,by have:=hb.2;omega⟩) (fun b hb=>⟨by have:=hb.1;omega,by have:=hb.2;omega⟩))
        have hV7:Blk w' wb.heap.size _ _:=(hg.block _ hJ6.tb.lt (fun e=>by have:=(hvS _ e.symm).1;omega)).trans hJ6.tb
        have hV8:∀b,q0≤b→b<wv.heap.size→w'.heap[b]? = wv.heap[b]?:=fun b h1 h2=>(hg.block b (by rw[hs6];omega) (fun e=>by have:=(hvS _ e.symm).2;omega)).trans (hV6 b h1 h2)
        obtain⟨ao7,cap7,hv7⟩:=hM'.form
        rw[List.length_append,List.length_singleton]at hv7
        subst hv7
        refine hKo hK ⟨hV7,hV8⟩ (fun hS=>?_)
        clear hK K hJ6 hM6 hl6 hn6 hM' hg hvS hV6 hV8
        refine tlH 6 ?_ rfl (fun w' hS=>?_) hS ?_
        rotate_left
        ·
         skip
         go_simp
         try with_reducible rfl
        refine wpAnyL_late (i:=7) (by kernel_rfl) rfl (by kernel_rfl) (fun K hK=>?_)
        clear hS
        have f1:=hV7.free 1
        have z0:=hV7.cell 0 rfl
        have z1:=hV7.cell 1 rfl
        go_simp
        go_wp2_with fail
        refine hK.out _ _ ?_
        clear hK K f1 hV7 z0 z1
        try simp only[List.getElem_toArray,List.getElem_cons_succ,List.getElem_cons_zero,Act.put,List.setIfInBounds_toArray,List.set_cons_zero,List.set_cons_succ]
        refine wpAnyL_done (by kernel_rfl) ?_ _
        rw[←hnext.out]at hJ8
        go_wp2
        go_roundw
        case rel=>exact⟨j+1,_,hj1.out,by go_num,hJ8⟩
        case measure=>have:=hj1.out;simp[intOf];omega
       ·have hji:¬(j:Int)<(B.rows.length:Int):=by omega
        obtain rfl:j=B.rows.length:=by omega
        have hd:=Hd (hJ.out.done (vars:=B.vars.foldl addN A.vars) hB4.out (by rw[hn.out];exact own4.out) (by omega) hsz2.out hq24b.out (by omega))
        have z0:=hJ.out.tb.cell 0 rfl
        have z1:=hJ.out.tb.cell 1 rfl
        have hrb5:Blk wr (w.heap.size+1+1) _ _:=(hJ.out.below.block _ hq24lt).trans hq24b.out
        have f1:=Blk.free hrb5
        have g0:=hrb5.cell 0 rfl
        have g1:=hrb5.cell 1 rfl
        obtain⟨ao9,cap9,hrv⟩:=hJ.out.slice
        subst hrv
        go_wp2
        refine bodyPost_ret (v:=.agg #[.slice an n cn,.slice ao9 (unionIJ A B A.rows.length B.rows.length).length cap9]) (results_cell_row rfl _ _ (w.heap.size+1+1) 25 _ (0,0) _ rfl hd.out.1.eq Tryz.underlying25 rfl infoTab) rfl ⟨_,rfl,by rw[hz.out];exact hd.out.2⟩
   ·have h64i:(64:Int)<((B.vars.foldl addN A.vars).length:Int):=by omega
    have hz:unionZ A B=⟨[],[]⟩:=by unfold unionZ unionT;rw[hmA,hmB,if_neg h64];simp
    replace hz:=Hd hz
    go_wp2
    refine bodyPost_ret (v:=.agg #[.slice none 0 0,.slice none 0 0]) (results_cell_row rfl _ _ (w.heap.size+1+1) 25 _ (0,0) _ rfl hfin.eq Tryz.underlying25 rfl infoTab) rfl ⟨_,rfl,?_⟩
    rw[hz.out]
    exact tabO_zero hbf
section
variable(w:World)(hE:Env w)(va vb:Value)(A B:Tab)(hA:TabA w 1048576 va A)(hB:TabA w 1048576 vb B)(ma:mayT A=true)(mb:mayT B=true)
include hE hA hB ma mb
theorem union_may(hr:A.rows.length+B.rows.length≤1048575):Calls Tryz.prog 10 #[va,vb] w fun e w'=>∃v,e=.returned v∧TabO w w' 1048576 v (unionT A B):=by
 have h1:=(names_parts (may_rows ma).1).1
 have h2:=(names_parts (may_rows mb).1).1
 have h:=union_any 1048576 (by omega) w hE va vb A B hA hB (by omega) (by omega) (by omega) (by omega) (by omega) hr
 have e:unionZ A B=unionT A B:=by unfold unionZ;rw[ma,mb];simp
 rwa [e]at h
theorem same_may(ha:A.rows.length≤1048576)(hb:B.rows.length≤1048576)(ka:KeyL A)(kb:KeyL B):Calls Tryz.prog 9 #[va,vb] w fun e w'=>e=.returned (.bool (sameT A B))∧Below w.heap.size w w':=by
 have h1:=(names_parts (may_rows ma).1).1
 have h2:=(names_parts (may_rows mb).1).1
 exact sameT_any 1048576 (by omega) w hE va vb A B hA hB (by omega) ha (by omega) hb ka kb
end
end Go.Proofs.YtmpldjbdhbapbaaGreatDoor.tab
