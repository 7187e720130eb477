/- Texts ValTruth, VBytes, one behind the other. -/
import Derived.Test.YtmpldjbdhbapbaaGreatDoorVSameA
import Derived.Lib.AppendStr
set_option linter.unusedSimpArgs false
set_option linter.unusedVariables false
set_option maxRecDepth 100000
set_option maxHeartbeats 1000000
namespace Go.Proofs.YtmpldjbdhbapbaaGreatDoor.val
open Go.ChangeShapes Go.WideShapes Go.ChangeAt Go.RowKit kit dec
def EW(V w:World):Prop:=Below V.heap.size V w∧Env V
theorem EW.step{V w w':World}(h:EW V w)(hb:Below w.heap.size w w'):EW V w':=⟨h.1.trans (hb.mono h.1.size),h.2⟩
theorem EW.start{V:World}(h:Env V):EW V V:=⟨Below.refl _ _,h⟩
theorem EW.drewN{V w:World}(h:EW V w)(n:Nat):EW V (w.drewN n):=h.step (Below_drewN n (Below.refl _ _))
theorem EW.alloc{V w:World}(h:EW V w)(o:Obj):EW V (w.alloc o):=h.step ((Below.refl _ _).alloc (Nat.le_refl _) _)
theorem truth_any(b:Bool)(w:World):Calls Tryz.prog 101 #[.bool b] w fun e w'=>e=.returned (.int .i64 (if b then 1 else 0))∧w'=w:=by
 cases b
 ·go_enter Tryz.func101,Tryz.ntmps101
  go_wp2
  go_ret
  exact⟨rfl,rfl⟩
 ·go_enter Tryz.func101,Tryz.ntmps101
  go_wp2
  go_ret
  exact⟨rfl,rfl⟩
def bytesV(l:List UInt8):List Value:=l.map fun b=>.int .u8 (b.toNat:Int)
def noB(o:Obj):Prop:=∀cs fr,o≠.cells cs 5 fr
structure Gr(w w':World):Prop where
 os:w'.os=w.os
 tape:w'.tape=w.tape
 output:w'.output=w.output
 size:w.heap.size≤w'.heap.size
 block:∀(k:Nat) (o:Obj),w.heap[k]? = some o→noB o→w'.heap[k]? = some o
theorem Gr.refl(w:World):Gr w w:=⟨rfl,rfl,rfl,Nat.le_refl _,fun _ _ h _=>h⟩
theorem Gr.trans{a b c:World}(h:Gr a b)(k:Gr b c):Gr a c:=
 ⟨k.os.trans h.os,k.tape.trans h.tape,k.output.trans h.output,Nat.le_trans h.size k.size,fun i o hi ho=>k.block i o (h.block i o hi ho) ho⟩
theorem Gr.below{a b:World}(h:Below a.heap.size a b):Gr a b:=
 ⟨h.os,h.tape,h.output,h.size,fun k o hk _=>(h.block k (Array.getElem?_eq_some_iff.1 hk).1).trans hk⟩
theorem Gr.grown{a b:World}{B n:Nat}{v:Value}{xs:List Value}(ho:a.ownsRow B 5 1 v n xs)(hg:a.grownBy b v.ownBlock):Gr a b:=by
 refine⟨hg.os,hg.tape,hg.output,hg.size,fun k o hk hn=>?_⟩
 refine(hg.block k (Array.getElem?_eq_some_iff.1 hk).1 ?_).trans hk
 intro e
 rcases ho.2 with⟨hv,_⟩|⟨g,cap,cur,hv,hg2,hh,_⟩
 ·subst hv;cases e
 ·subst hv
  have e2:k=g:=by simpa[Value.ownBlock]using e
  subst e2
  rw[hh]at hk
  exact hn cur (0,0) (Option.some.inj hk).symm
theorem Gr.blk{a b:World}(h:Gr a b){k:Nat}{cs:Array Value}{t:TypeId}(hb:Blk a k cs t)(ht:t≠5):Blk b k cs t:=
 h.block k _ hb (fun cs' fr e=>ht (by injection e))
structure BW(W:World)(B:Nat)(v:Value)(l:List UInt8)(W1:World):Prop where
 below:Below B W W1
 own:W1.ownsRow B 5 1 v l.length (bytesV l)
theorem BW.start(W:World):BW W W.heap.size (.slice none 0 0) [] W:=⟨Below.refl _ _,World.ownsRow_nil _ _ _ _⟩
theorem BW.grown{W W1 w':World}{B:Nat}{v v':Value}{l m:List UInt8}(h:BW W B v l W1)(hB:B≤W1.heap.size)(o:Obj)
 (h1:w'.ownsRow B 5 1 v' (l.length+m.length) (bytesV l++bytesV m))(h2:(W1.alloc o).grownBy w' v.ownBlock):BW W B v' (l++m) w':=by
 refine⟨(h.below.alloc hB _).grown h2 (by rw[World.size_alloc];omega) (fun k hk=>(h.own.lt k hk).1),?_⟩
 rw[List.length_append]
 simpa[bytesV]using h1
theorem BW.grown0{W W1 w':World}{B:Nat}{v v':Value}{l m:List UInt8}(h:BW W B v l W1)(hB:B≤W1.heap.size)
 (h1:w'.ownsRow B 5 1 v' (l.length+m.length) (bytesV l++bytesV m))(h2:W1.grownBy w' v.ownBlock):BW W B v' (l++m) w':=by
 refine⟨h.below.grown h2 hB (fun k hk=>(h.own.lt k hk).1),?_⟩
 rw[List.length_append]
 simpa[bytesV]using h1
theorem BW.alloc{W W1:World}{B:Nat}{v:Value}{l:List UInt8}(h:BW W B v l W1)(hB:B≤W1.heap.size)(o:Obj):BW W B v l (W1.alloc o):=⟨h.below.alloc hB o,h.own.alloc _⟩
theorem BW.on{W W1 W2:World}{B:Nat}{v:Value}{l:List UInt8}(h:BW W B v l W1)(hB:B≤W1.heap.size)(hb:Below W1.heap.size W1 W2):BW W B v l W2:=by
 refine⟨h.below.trans (hb.mono hB),?_⟩
 refine h.own.kept (w':=W2) (row:=none) ⟨hb.os,hb.tape,hb.output,hb.size,fun k hk _=>hb.block k hk⟩ (by by_cases e:v.ownBlock=none;exact .inl e;exact .inr e)
theorem news_b(w:World)(x:Value)(t:TypeId):∀j u,[x][j]? = some u→(w.alloc (.cells #[x] t)).cell? ((⟨w.heap.size,0,none⟩:Addr).add j)=some u:=by
 intro j u hu
 match j,hu with
 |0,hu=>
  have hadd:(⟨w.heap.size,0,none⟩:Addr).add 0=⟨w.heap.size,0,none⟩:=rfl
  rw[hadd,World.cell?_alloc_new]
  simpa using hu
 |j+1,hu=>simp at hu
def lo8(n:Nat):UInt8:=UInt8.ofNat (n % 256)
def bigL(n:Nat):Nat→List UInt8
 |0=>[]
 |k+1=>lo8 (n / 2 ^ (8 * k))::bigL n k
theorem bigL_len(n:Nat):∀k,(bigL n k).length=k
 |0=>rfl
 |k+1=>by rw[bigL,List.length_cons,bigL_len n k]
def u64(n:Int):Nat:=(n % 18446744073709551616).toNat
def txL(t:ByteArray):List UInt8:=bigL t.size 4++t.data.toList
mutual
def encV:V→List UInt8
 | .mk k b n t x l => lo8 (u64 k) ::
  (if k=1 then[if b then 1 else 0] else if k=2∨k=6∨k=7 then bigL (u64 n) 8 else if k=3∨k=4∨k=8∨k=9 then txL t
   else if k=10 then txL t++txL x else if k=5 then bigL l.length 4++encL l else[])
def encL:List V→List UInt8
 |[]=>[]
 |v::r=>encV v++encL r
end
theorem _root_.Go.Proofs.YtmpldjbdhbapbaaGreatDoor.Tryz.infoB:(Tryz.prog.info? 5).map (fun i=>(i.zero,i.size,i.bytes))=some (some (.int .u8 0),1,1):=by kernel_rfl
theorem lo8_div(n k:Nat):(n:Int) / 2 ^ k % 256=((lo8 (n / 2 ^ k)).toNat:Int):=by
 unfold lo8
 simp
theorem big_call(W0:World)(l:List UInt8)(v:Value)(n width:Nat)(hw0:1≤width)(hw:width≤8)(hn:n<18446744073709551616)(w:World)(h:BW W0 W0.heap.size v l w)(hl:l.length≤100000000):
 Calls Tryz.prog 102 #[v,.int .u64 n,.int .i64 width] w fun e w'=>∃v',e=.returned v'∧BW W0 W0.heap.size v' (l++bigL n width) w'∧Gr w w':=by
 obtain⟨i0,hi,hz0,hz1,hz2⟩:=info_parts Tryz.infoB
 replace hi:=Hd hi
 replace hz0:=Hd hz0
 replace hz1:=Hd hz1
 replace hz2:=Hd hz2
 have hB0:W0.heap.size≤w.heap.size:=h.below.size
 have h0:=Hd h
 clear h
 go_enter Tryz.func102,Tryz.ntmps102
 go_wp2
 go_loopw [0,7] (fun v0 v7 wr=>∃(j:Nat) (pre:List UInt8),((v7=.int .i64 ((j:Nat):Int)∧j<width∧Hid (pre++bigL n (j+1)=bigL n width))∨(j=0∧v7=.int .i64 (-1)∧Hid (pre=bigL n width)))∧Hid (BW W0 W0.heap.size v0 (l++pre) wr)∧Hid (Gr w wr)) (fun _ v7 _=>(intOf v7+1).toNat)
 case atStart=>
  refine⟨width-1,[],.inl ⟨?_,by omega,?_⟩,?_,Gr.refl _⟩
  ·exact congrArg _ (by omega)
  ·rw[List.nil_append,show width-1+1=width by omega];exact Hd rfl
  ·rw[List.append_nil];exact h0
 case round=>
  obtain⟨j,pre,hj,hb,hg⟩:=hrel
  rcases hj with⟨rfl,hjw,hpre⟩|⟨rfl,rfl,hpre⟩
  ·have hpl:pre.length≤8:=by
    have:=congrArg List.length hpre.out
    rw[List.length_append,bigL_len,bigL_len]at this
    omega
   have hB:W0.heap.size≤wr.heap.size:=hb.out.below.size
   have hj0:0≤(j:Int):=by omega
   have hj8:(j:Int)≤7:=by omega
   have hbyte:=Hd (lo8_div n (8 * j))
   have hown:=hb.out.own
   have hll:(l++pre).length≤100000008:=by rw[List.length_append];omega
   generalize hL:l++pre=L at *
   replace hL:=Hd hL
   go_wp2_with (at_builtin;refine wpList_append_own _ rfl _ _ 108 rfl W0.heap.size 5 i0 (.int .u8 0) 1 1 Tryz.underlying108 hi.out hz0.out hz1.out hz2.out rfl (by decide) _ L.length (bytesV L) rfl (hown.alloc _) _ 1 _ [.int .u8 ((n:Int) / 2 ^ (8 * j) % 256)] rfl rfl ?c1 ?c2 ?c3 ?c4 ?c5 ?c6)
   case c1=>exact news_b _ _ _
   case c2=>simp[Value.oneCell']
   case c3=>simp only[maxLen];omega
   case c4=>omega
   case c5=>simp;omega
   case c6=>
    intro v' w' hown' hgrow _
    rw[hbyte.out]at hown'
    have hb2:=Hd (hb.out.grown hB (.cells #[.int .u8 ((n:Int) / 2 ^ (8 * j) % 256)] 5) (m:=[lo8 (n / 2 ^ (8 * j))]) hown' hgrow)
    have hg2:=Hd (hg.out.trans ((Gr.below ((Below.refl _ _).alloc (Nat.le_refl _) _)).trans (Gr.grown (hown.alloc _) hgrow)))
    clear hown' hgrow hown hbyte hb hg
    have hst:=hpre.out
    rw[bigL]at hst
    rcases Nat.eq_zero_or_pos j with rfl|hjp
    ·have hfin:pre++[lo8 (n / 2 ^ (8 * 0))]=bigL n width:=by rw[←hst];rfl
     replace hfin:=Hd hfin
     clear hpre hst
     go_wp2
     go_roundw
     case rel=>exact⟨0,pre++[lo8 (n / 2 ^ (8 * 0))],.inr ⟨rfl,by go_num,hfin⟩,by rw[←List.append_assoc,hL.out];exact hb2,hg2⟩
     case measure=>simp[intOf]
    ·obtain⟨i,rfl⟩:∃i,j=i+1:=⟨j-1,by omega⟩
     have hfin:(pre++[lo8 (n / 2 ^ (8 * (i+1)))])++bigL n (i+1)=bigL n width:=by rw[←hst,List.append_assoc];rfl
     replace hfin:=Hd hfin
     clear hpre hst
     go_wp2
     go_roundw
     case rel=>exact⟨i,pre++[lo8 (n / 2 ^ (8 * (i+1)))],.inl ⟨by go_num,by omega,hfin⟩,by rw[←List.append_assoc,hL.out];exact hb2,hg2⟩
     case measure=>simp[intOf];omega
  ·go_wp2
   go_ret
   exact⟨_,rfl,by rw[←hpre.out];exact hb.out,hg.out⟩
end Go.Proofs.YtmpldjbdhbapbaaGreatDoor.val
