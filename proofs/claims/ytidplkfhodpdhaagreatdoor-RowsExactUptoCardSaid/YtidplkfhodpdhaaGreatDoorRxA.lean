/- Texts TabGot, TOverT, RxP, one behind the other. -/
import Derived.Test.YtidplkfhodpdhaaGreatDoorRtUnionR
import Derived.Test.YtidplkfhodpdhaaGreatDoorTabMinusA
import Derived.Test.YtidplkfhodpdhaaGreatDoorTabPutA
set_option linter.unusedSimpArgs false
set_option linter.unusedVariables false
set_option maxRecDepth 100000
set_option maxHeartbeats 4000000
namespace Go.Proofs.YtidplkfhodpdhaaGreatDoor.tab
open Go.ChangeShapes Go.WideShapes Go.ChangeAt Go.RowKit kit dec val
open hyp (RowA TextsA CellsStay stay_of_below textsV textsV_length own_row OW)
theorem out_cell{S:Nat→Prop}{a b:World}(h:Out S a b){k i:Nat}{v:Value}(hk:¬S k)(hc:a.cell? ⟨k,i,none⟩=some v):b.cell? ⟨k,i,none⟩=some v:=(cell_heapx (h.block k (cell_lowT hc) hk)).trans hc
theorem _root_.Go.Proofs.YtidplkfhodpdhaaGreatDoor.val.Out.mono{S S':Nat→Prop}{a b:World}(h:Out S a b)(hs:∀b,S b→S' b):Out S' a b:=(Out.refl S' a).trans h hs
theorem tab_small{t:Tab}{n:Nat}(h:mayT t=true)(hn:t.rows.length≤n):t.vars.length≤64∧t.rows.length≤n∧∀r∈t.rows,r.length≤64:=by
 obtain⟨h1,h2⟩:=may_rows h
 obtain⟨h3,-,-⟩:=names_parts h1
 exact⟨h3,hn,fun r hr=>by rw[row_len (h2 r hr)];exact h3⟩
structure GotT(W:World)(N:Nat)(S:Nat→Prop)(n r:Value)(t:Tab):Prop where
 own:∃B,W.ownsRow B 9 1 n t.vars.length (textsV t.vars)
 inS:∀g,n.ownBlock=some g→S g
 size:∀s∈t.vars,s.size≤maxLen
 rows:MR W N S r t.rows
theorem GotT.keep{W W':World}{N:Nat}{S:Nat→Prop}{n r:Value}{t:Tab}(h:GotT W N S n r t)(hk:∀b,S b→b<W.heap.size→W'.heap[b]? = W.heap[b]?):GotT W' N S n r t:=by
 obtain⟨B,own⟩:=h.own
 exact⟨⟨B,val.own_stay own fun g hg=>hk g (h.inS g hg) (own.lt g hg).2⟩,h.inS,h.size,h.rows.stay hk⟩
theorem GotT.read{W:World}{N:Nat}{S:Nat→Prop}{n r:Value}{t:Tab}(h:GotT W N S n r t):TabA W N (.agg #[n,r]) t:=by
 obtain⟨B,own⟩:=h.own
 exact⟨n,r,rfl,⟨own_row (by rw[textsV_length];exact own),h.size⟩,h.rows.read⟩
theorem GotT.of{w W:World}{N:Nat}{n r:Value}{t:Tab}(h:TabO w W N (.agg #[n,r]) t):GotT W N (fun b=>w.heap.size≤b∧b<W.heap.size) n r t:=by
 obtain⟨vv,rv,e,hb,own,hsz,hM⟩:=h
 injection e with e
 have e2:=Array.mk.inj e
 simp only[List.cons.injEq,and_true]at e2
 obtain⟨rfl,rfl⟩:=e2
 exact⟨⟨_,own⟩,fun g hg=>own.lt g hg,hsz,hM⟩
theorem GotT.mono{W:World}{N:Nat}{S S':Nat→Prop}{n r:Value}{t:Tab}(h:GotT W N S n r t)(hs:∀b,S b→S' b):GotT W N S' n r t:=
 ⟨h.own,fun g hg=>hs g (h.inS g hg),h.size,h.rows.mono hs⟩
theorem blk_stay{w w':World}{b:Nat}{cs:Array Value}{t:TypeId}(h:Blk w b cs t)(hb:Below w.heap.size w w'):Blk w' b cs t:=(hb.block _ h.lt).trans h
theorem out_setRow(W:World)(g:Nat)(cs:Array Value):Out (fun b=>b=g) W (W.setRow g cs):=
 ⟨rfl,rfl,rfl,by simp,fun k hk hn=>_root_.Go.setRow_other W g k cs hn⟩
theorem exec_build{P:Program}{a:Act}{o:Oper}(t:TypeId)(parts:Array (Nat×Operand))(ho:o.op=.build t parts)(vs:List (Nat×Value))(cells:Array Value)(w:World)
 (hp:(parts.map fun(i,x)=>(i,a.eval x)).toList=vs)(hb:P.built t vs=some cells):(execOp a.eval o).run P w=.ok (.value (.agg cells)) w:=by
 subst hp
 unfold execOp
 simp only[ho,Sem.run_bind,run_build w t _ cells hb,Result.andThen_ok]
 rfl
theorem _root_.Go.Proofs.YtidplkfhodpdhaaGreatDoor.val.LF.free{w:World}{N:Nat}{S:Nat→Prop}{v:Value}{l:List V}(h:LF w N S v l){p:Nat}{cs:Array Value}{t:TypeId}(hb:Blk w p cs t)(hne:52≠t):LF w N (fun b=>S b∧b≠p) v l:=by
 induction h with
 |mk ps P e hN own hS nb sub dis ok h ih=>
  exact .mk ps (fun j b=>P j b∧b≠p) e hN own (fun g hg=>⟨hS g hg,fun e=>own_ne own hb hne (e ▸ hg)⟩) (fun g hg j hP=>nb g hg j hP.1) (fun j b hP=>⟨sub j b hP.1,hP.2⟩) (fun i j b h1 h2=>dis i j b h1.1 h2.1) ok (fun j hj=>ih j hj)
theorem MR.free{w:World}{N:Nat}{S:Nat→Prop}{v:Value}{rs:List (List V)}(h:MR w N S v rs){p:Nat}{cs:Array Value}{t:TypeId}(hb:Blk w p cs t)(hne:52≠t)(hn2:37≠t):MR w N (fun b=>S b∧b≠p) v rs:=by
 obtain⟨vs,P,h1,h2,h3,h4,h5,h6,h7⟩:=h
 exact⟨vs,fun j b=>P j b∧b≠p,h1,h2,fun g hg=>⟨h3 g hg,fun e=>own_ne h2 hb hn2 (e ▸ hg)⟩,fun g hg j hP=>h4 g hg j hP.1,fun j b hP=>⟨h5 j b hP.1,hP.2⟩,fun i j b a c=>h6 i j b a.1 c.1,fun j hj hj'=>(h7 j hj hj').free hb hne⟩
theorem GotT.parted{W:World}{N:Nat}{S:Nat→Prop}{n r:Value}{t:Tab}(h:GotT W N S n r t):MR W N (fun b=>S b∧n.ownBlock≠some b) r t.rows:=by
 obtain⟨B,own⟩:=h.own
 rcases own.2 with⟨rfl,_⟩|⟨g,cap,cur,rfl,_,hg,_⟩
 ·exact h.rows.mono fun b hb=>⟨hb,fun e=>by cases e⟩
 ·have hq:Blk W g cur 9:=hg
  exact(h.rows.free hq (by decide) (by decide)).mono fun b hb=>⟨hb.1,fun e=>hb.2 (by injection e with e;exact e.symm)⟩
end Go.Proofs.YtidplkfhodpdhaaGreatDoor.tab
namespace Go.Proofs.YtidplkfhodpdhaaGreatDoor.hyp
open Go.ChangeShapes Go.WideShapes Go.ChangeAt Go.RowKit kit
theorem own_form4{w:World}{B:Nat}{e:TypeId}{s:Nat}{v:Value}{n:Nat}{xs:List Value}(h:w.ownsRow B e s v n xs):∃a c,v=.slice a n c:=by
 rcases h.2 with⟨rfl,hn⟩|⟨g,cap,cur,rfl,_⟩
 ·exact⟨none,0,by rw[hn]⟩
 ·exact⟨_,cap,rfl⟩
def Shp(w:World)(B:Nat)(e:TypeId)(v:Value)(n:Nat):Prop:=∃xs,w.ownsRow B e 1 v n xs
structure Ov(row:Option Nat)(w w':World):Prop where
 grown:w.grownBy w' row
 shape:∀(k:Nat) (cur:Array Value) (e:TypeId),w.heap[k]? = some (.cells cur e (0,0))→∃cur',w'.heap[k]? = some (.cells cur' e (0,0))∧cur'.size=cur.size
theorem Ov.refl(row:Option Nat)(w:World):Ov row w w:=⟨⟨rfl,rfl,rfl,Nat.le_refl _,fun _ _ _=>rfl⟩,fun k cur e h=>⟨cur,h,rfl⟩⟩
theorem Ov.trans{r s:Option Nat}{a b c:World}(h:Ov r a b)(k:Ov s b c)(hs:∀j,s=some j→r=some j∨a.heap.size≤j):Ov r a c:=by
 refine⟨⟨k.grown.os.trans h.grown.os,k.grown.tape.trans h.grown.tape,k.grown.output.trans h.grown.output,Nat.le_trans h.grown.size k.grown.size,fun j hj hr=>?_⟩,fun j cur e hc=>?_⟩
 ·rw[k.grown.block j (Nat.lt_of_lt_of_le hj h.grown.size) (fun hb=>?_),h.grown.block j hj hr]
  rcases hs j hb.symm with h1|h1
  ·exact hr h1.symm
  ·omega
 ·obtain⟨c1,h1,h2⟩:=h.shape j cur e hc
  obtain⟨c2,h3,h4⟩:=k.shape j c1 e h1
  exact⟨c2,h3,h4.trans h2⟩
theorem Ov.set(w:World)(g j:Nat)(x:Value):Ov (some g) w (w.setCell ⟨g,j,none⟩ x):=by
 refine⟨⟨rfl,rfl,rfl,by simp[World.setCell],fun k hk hne=>heap_setCell_other w ⟨g,j,none⟩ k x (fun e=>hne (by simp[e]))⟩,fun k cur e h=>?_⟩
 by_cases hk:k=g
 ·subst hk
  exact⟨_,heap_setCell_same w k j cur e x h,by simp⟩
 ·exact⟨cur,(heap_setCell_other w ⟨g,j,none⟩ k x hk).trans h,rfl⟩
theorem Ov.alloc(row:Option Nat)(w:World)(o:Obj):Ov row w (w.alloc o):=
 ⟨⟨rfl,rfl,rfl,by simp,fun k hk _=>Below.heap_alloc _ _ _ hk⟩,fun k cur e h=>⟨cur,(Below.heap_alloc _ _ _ (Array.getElem?_eq_some_iff.1 h).1).trans h,rfl⟩⟩
theorem Ov.ofNone{w w':World}(h:w.grownBy w' none)(row:Option Nat):Ov row w w':=
 ⟨⟨h.os,h.tape,h.output,h.size,fun k hk _=>h.block k hk (by simp)⟩,fun k cur e hc=>⟨cur,(h.block k (Array.getElem?_eq_some_iff.1 hc).1 (by simp)).trans hc,rfl⟩⟩
theorem Shp.ov{w w':World}{B:Nat}{e:TypeId}{v:Value}{n:Nat}{row:Option Nat}(h:Shp w B e v n)(k:Ov row w w'):Shp w' B e v n:=by
 obtain⟨xs,h1,h2⟩:=h
 rcases h2 with⟨h3,h4⟩|⟨g,cap,cur,h3,h4,h5,h6,h7,h8,h9⟩
 ·exact⟨xs,h1,.inl ⟨h3,h4⟩⟩
 ·obtain⟨c2,h10,h11⟩:=k.shape g cur e h5
  refine⟨c2.toList.take (n * 1),?_,.inr ⟨g,cap,c2,h3,h4,h10,h6,h7,h11.trans h8,rfl⟩⟩
  rw[List.length_take,Array.length_toList,h11,h8]
  omega
theorem Shp.at{w:World}{B:Nat}{e:TypeId}{a:Option Addr}{n c:Nat}(h:Shp w B e (.slice a n c) n){k:Nat}(hk:k<n):
 ∃g,a=some ⟨g,0,none⟩∧∃z,w.cell? ⟨g,k,none⟩=some z∧w.frozen? ⟨g,k,none⟩=false∧∀x,Shp (w.setCell ⟨g,k,none⟩ x) B e (.slice a n c) n∧Ov (Value.slice a n c).ownBlock w (w.setCell ⟨g,k,none⟩ x):=by
 obtain⟨xs,hx⟩:=id h
 rcases hx.2 with⟨-,hn⟩|⟨g,cap,cur,hv,h4,h5,h6,h7,h8,h9⟩
 ·omega
 ·injection hv with e1 e2 e3
  subst e1 e3
  refine⟨g,rfl,cur[k]'(by omega),?_,hx.frozenAt k,fun x=>⟨h.ov (Ov.set w g k x),Ov.set w g k x⟩⟩
  rw[cell_of_row w g k cur e (0,0) h5]
  simp
theorem cell_low2{w:World}{b i:Nat}{v:Value}(h:w.cell? ⟨b,i,none⟩=some v):b<w.heap.size:=by
 obtain⟨o,ho,-⟩:=cells_of_cell h
 exact(Array.getElem?_eq_some_iff.1 ho).1
theorem frozen_heap{w w':World}{k i:Nat}(h:w'.heap[k]? = w.heap[k]?):w'.frozen? ⟨k,i,none⟩=w.frozen? ⟨k,i,none⟩:=by
 unfold World.frozen?
 simp only[h]
theorem Shp.olds{w:World}{B:Nat}{e:TypeId}{a:Option Addr}{n c:Nat}(h:Shp w B e (.slice a n c) n):
 ∃L:List Value,L.length=n * 1∧∀b,a=some b→∃g,b=⟨g,0,none⟩∧∀j u,L[j]? = some u→w.cell? (b.add j)=some u:=by
 obtain⟨xs,hx⟩:=id h
 refine⟨xs,hx.1,fun b hb=>?_⟩
 subst hb
 rcases hx.2 with⟨hv,hn⟩|⟨g,cap,cur,hv,h4,h5,h6,h7,h8,h9⟩
 ·injection hv with e1
  cases e1
 ·injection hv with e1 e2 e3
  cases e1
  exact⟨g,rfl,hx.cells rfl⟩
theorem Shp.room{w:World}{B:Nat}{e:TypeId}{a:Option Addr}{n c:Nat}(h:Shp w B e (.slice a n c) n)(hr:n+1≤c):
 ∃g,a=some ⟨g,0,none⟩∧∃z,w.cell? ⟨g,n,none⟩=some z∧w.frozen? ⟨g,n,none⟩=false∧∃L:List Value,L.length=n * 1∧∀j u,L[j]? = some u→w.cell? ⟨g,0+j,none⟩=some u:=by
 obtain⟨xs,hx⟩:=id h
 rcases hx.2 with⟨hv,hn⟩|⟨g,cap,cur,hv,h4,h5,h6,h7,h8,h9⟩
 ·injection hv with e1 e2 e3
  omega
 ·injection hv with e1 e2 e3
  subst e1 e3
  refine⟨g,rfl,cur[n]'(by omega),?_,hx.frozenAt n,xs,hx.1,fun j u hu=>?_⟩
  ·rw[cell_of_row w g n cur e (0,0) h5]
   simp
  ·have hj:=(List.getElem?_eq_some_iff.1 hu).1
   rw[Nat.zero_add,hx.cellAt j (by have:=hx.1;omega)]
   exact hu
theorem overT_any(w:World)(B:Nat)(v:Value)(n:Nat)(h:Shp w B 9 v n)(hn:n≤1048576):
 Calls Tryz.prog 40 #[v] w fun e w'=>e=.returned (.tuple #[])∧Ov v.ownBlock w w':=by
 obtain⟨i0,hi0,hz0,hz1,hz2⟩:=info_parts infoStrC
 replace hi0:=Hd hi0
 replace hz0:=Hd hz0
 replace hz1:=Hd hz1
 replace hz2:=Hd hz2
 obtain⟨xs,hx⟩:=h
 obtain⟨a,c,rfl⟩:=own_form4 hx
 have hx0:Hid (Shp w B 9 (.slice a n c) n):=Hd ⟨xs,hx⟩
 clear hx
 go_enter Tryz.func40,Tryz.ntmps40
 go_wp2
 go_loopw [2] (fun i wr=>∃k:Nat,k≤n∧i=.int .i64 (k:Int)∧Hid (Shp wr B 9 (.slice a n c) n)∧Hid (Ov (Value.slice a n c).ownBlock w wr)) (fun i _=>n-(intOf i).toNat)
 case atStart=>exact⟨0,by omega,rfl,hx0,Hd (Ov.refl _ _)⟩
 case round =>
  clear hx0
  obtain⟨k,hk,rfl,hX,hO⟩:=hrel
  by_cases hlt:k<n
  ·have hki:(k:Int)<(n:Int):=by omega
   have hk1:=Hd (show k+1≤n from hlt)
   obtain⟨g,hg,z,hc,hf,hst⟩:=hX.out.at hlt
   subst hg
   have hO2:=Hd (hO.out.trans (hst (.string ⟨#[111,118,101,114]⟩)).2 (fun j hj=>.inl hj))
   have hX2:=Hd (hst (.string ⟨#[111,118,101,114]⟩)).1
   clear hX hO hst
   go_wp2
   go_roundw
   case rel=>exact⟨k+1,hk1.out,by go_num,hX2,hO2⟩
   case measure=>have:=hk1.out;simp[intOf];omega
  ·have hki:¬(k:Int)<(n:Int):=by omega
   by_cases hroom:n+1≤c
   ·obtain⟨g,hg,z,hc,hf,hcells,hcs,hce⟩:=hX.out.room hroom
    subst hg
    have hga:=(cell_low2 hc)
    have hcb:∀j u,hcells[j]? = some u→(wr.alloc (.cells #[.string ⟨#[98,101,121,111,110,100]⟩] 9)).cell? ⟨g,0+j,none⟩=some u:=fun j u hu=>by
     rw[cell_heap (Below.heap_alloc _ _ _ hga)]
     exact hce j u hu
    have hcn:(wr.alloc (.cells #[.string ⟨#[98,101,121,111,110,100]⟩] 9)).cell? ⟨g,n,none⟩=some z:=by
     rw[cell_heap (Below.heap_alloc _ _ _ hga)]
     exact hc
    have hfn:(wr.alloc (.cells #[.string ⟨#[98,101,121,111,110,100]⟩] 9)).frozen? ⟨g,n,none⟩=false:=by
     rw[frozen_heap (Below.heap_alloc _ _ _ hga)]
     exact hf
    have hsp:n+1≤c→∀j,j<([.string ⟨#[98,101,121,111,110,100]⟩]:List Value).length→((wr.alloc (.cells #[.string ⟨#[98,101,121,111,110,100]⟩] 9)).cell? ⟨g,0+n * 1+j,none⟩).isSome=true∧(wr.alloc (.cells #[.string ⟨#[98,101,121,111,110,100]⟩] 9)).frozen? ⟨g,0+n * 1+j,none⟩=false:=fun _ j hj=>by
     have:j=0:=by simpa using hj
     subst this
     rw[show 0+n * 1+0=n by omega,hcn]
     exact⟨rfl,hfn⟩
    have hone:∀u∈([.string ⟨#[98,101,121,111,110,100]⟩]:List Value),u.oneCell'=true:=by simp[Value.oneCell']
    have hmx:n+1≤maxLen:=by simp only[maxLen];omega
    have hno:c<n+1→False:=fun h=>by omega
    have hwc:((wr.alloc (.cells #[.string ⟨#[98,101,121,111,110,100]⟩] 9)).setCells g n [.string ⟨#[98,101,121,111,110,100]⟩]).cell? ⟨g,n,none⟩=some (.string ⟨#[98,101,121,111,110,100]⟩):=by
     rw[World.setCells,World.setCells]
     exact World.cell?_setCell_same (h:=hcn) ..
    have hwf:((wr.alloc (.cells #[.string ⟨#[98,101,121,111,110,100]⟩] 9)).setCells g n [.string ⟨#[98,101,121,111,110,100]⟩]).frozen? ⟨g,n,none⟩=false:=by
     rw[World.setCells,World.setCells]
     rw[World.frozen?_setCell]
     exact hfn
    have hO5:=Hd (((hO.out.trans (Ov.alloc (some g) wr (.cells #[.string ⟨#[98,101,121,111,110,100]⟩] 9)) (fun j hj=>.inl hj)).trans (Ov.set _ g n (.string ⟨#[98,101,121,111,110,100]⟩)) (fun j hj=>.inl hj)).trans (Ov.set _ g n (.string ⟨#[111,118,101,114]⟩)) (fun j hj=>.inl hj))
    clear hO hX hce
    go_wp2_with (at_builtin;refine wpList_append_arg _ rfl _ _ 22 rfl 9 i0 (.string ByteArray.empty) 1 16 Tryz.underlying22 hi0.out hz0.out hz1.out hz2.out rfl (by decide) g 0 n c hcells rfl hcs hcb _ 1 _ [.string ⟨#[98,101,121,111,110,100]⟩] rfl rfl (news_one wr (.string ⟨#[98,101,121,111,110,100]⟩) 9) hone hsp hmx (by omega) ?ch (fun h=>(hno h).elim))
    go_end0
    exact⟨rfl,hO5.out⟩
   ·have hfull:c<n+1:=by omega
    obtain⟨L,hL1,hL2⟩:=hX.out.olds
    have hLa:∀b,a=some b→∀j u,L[j]? = some u→(wr.alloc (.cells #[.string ⟨#[98,101,121,111,110,100]⟩] 9)).cell? (b.add j)=some u:=fun b hb j u hu=>by
     obtain⟨g,rfl,h2⟩:=hL2 b hb
     have h3:=h2 j u hu
     have hadd:(⟨g,0,none⟩:Addr).add j=⟨g,j,none⟩:=by unfold Addr.add;split<;>simp_all
     rw[hadd]at h3 ⊢
     rw[cell_heap (Below.heap_alloc _ _ _ (cell_low2 h3))]
     exact h3
    have hnone:a=none→n=0∧c=0:=fun h=>by
     subst h
     obtain⟨xs,hx⟩:=hX.out
     rcases hx.2 with⟨hv,hn0⟩|⟨g,cap,cur,hv,_⟩
     ·injection hv with e1 e2 e3
      exact⟨hn0,e3⟩
     ·injection hv with e1
      cases e1
    have hone:∀u∈([.string ⟨#[98,101,121,111,110,100]⟩]:List Value),u.oneCell'=true:=by simp[Value.oneCell']
    have hmx:n+1≤maxLen:=by simp only[maxLen];omega
    clear hX
    go_wp2_with (at_builtin;refine wpList_append_grows _ rfl _ _ 22 rfl 9 i0 (.string ByteArray.empty) 1 16 Tryz.underlying22 hi0.out hz0.out hz1.out hz2.out rfl (by decide) a n c L rfl hnone hL1 hLa _ 1 _ [.string ⟨#[98,101,121,111,110,100]⟩] rfl rfl (news_one wr (.string ⟨#[98,101,121,111,110,100]⟩) 9) hone hfull hmx (by omega) ?ck)
    case ck=>
     intro v6 w6 h1 h2
     obtain⟨a6,c6,rfl⟩:=own_form4 h1
     have hS6:Shp w6 (wr.heap.size+1) 9 (.slice a6 (n+1) c6) (n+1):=⟨_,h1⟩
     obtain⟨g6,rfl,z6,hc6,hf6,hst6⟩:=hS6.at (k:=n) (by omega)
     have hg6:wr.heap.size≤g6:=by
      have:=(h1.lt g6 rfl).1
      omega
     have hO6:=Hd (((hO.out.trans (Ov.alloc none wr (.cells #[.string ⟨#[98,101,121,111,110,100]⟩] 9)) (fun j hj=>by cases hj)).trans (Ov.ofNone h2 none) (fun j hj=>by cases hj)).trans (Ov.set w6 g6 n (.string ⟨#[111,118,101,114]⟩)) (fun j hj=>.inr (by cases hj;have:=hO.out.grown.size;omega)))
     clear hO h1 h2 hS6 hst6
     go_wp2
     go_end0
     exact⟨rfl,hO6.out⟩
end Go.Proofs.YtidplkfhodpdhaaGreatDoor.hyp
namespace Go.Proofs.YtidplkfhodpdhaaGreatDoor.tab
open Go.ChangeShapes Go.WideShapes Go.ChangeAt Go.RowKit kit dec val stab
open hyp (RowA TextsA CellsStay stay_of_below textsV textsV_length own_row OW Ov Shp)
def tabK(s:Bool)(A B:Tab)(X:List ByteArray):Nat→Tab
 |0=>canonZ s A
 |1=>distZ A
 |2=>projZ A X
 |3=>joinZ A B
 |4=>unionZ A B
 |_=>minusZ A B
theorem nil_may:mayT ⟨[],[]⟩=true:=by decide
theorem tabK_may(s:Bool)(A B:Tab)(X:List ByteArray)(k:Nat):mayT (tabK s A B X k)=true:=by
 unfold tabK
 split
 ·unfold canonZ
  split
  ·rename_i h;exact canon_may s h
  ·exact nil_may
 ·unfold distZ
  split
  ·rename_i h;exact dist_may h
  ·exact nil_may
 ·unfold projZ
  split
  ·rename_i h;exact projT_may h.1 h.2
  ·exact nil_may
 ·unfold joinZ
  split
  ·rename_i h;exact joinT_may h.1 h.2
  ·exact nil_may
 ·unfold unionZ
  split
  ·rename_i h;exact unionT_may h.1 h.2
  ·exact nil_may
 ·unfold minusZ
  split
  ·rename_i h;exact minus_may B h.1
  ·exact nil_may
theorem unionT_le(a b:Tab):(unionT a b).rows.length≤a.rows.length+b.rows.length:=by
 unfold unionT
 split
 ·simp
 ·simp
theorem tabK_len(s:Bool){A B:Tab}(X:List ByteArray)(hA:A.rows.length≤60)(hB:B.rows.length≤60)(k:Nat):(tabK s A B X k).rows.length≤3600:=by
 unfold tabK
 split
 ·unfold canonZ
  split
  ·have:(canonT s A).rows.length=A.rows.length:=sortR_len s A.rows
   omega
  ·exact Nat.zero_le _
 ·unfold distZ
  split
  ·have:=distT_len A
   omega
  ·exact Nat.zero_le _
 ·unfold projZ
  split
  ·have:(projT A X).rows.length=A.rows.length:=by simp[projT]
   omega
  ·exact Nat.zero_le _
 ·unfold joinZ
  split
  ·exact Nat.le_trans (joinT_len A B) (Nat.mul_le_mul hA hB)
  ·exact Nat.zero_le _
 ·unfold unionZ
  split
  ·have:=unionT_le A B
   omega
  ·exact Nat.zero_le _
 ·unfold minusZ
  split
  ·have:(minusT A B).rows.length≤A.rows.length:=List.length_filter_le _ _
   omega
  ·exact Nat.zero_le _
def Tk(w0 W:World)(pw N:Nat)(v:Value)(t:Tab):Prop:=∀W',Below w0.heap.size w0 W'→Out (fun b=>b=pw) W W'→TabA W' N v t
theorem Tk.next{w0 W W1:World}{pw N:Nat}{v:Value}{t:Tab}(h:Tk w0 W pw N v t)(ho:Out (fun b=>b=pw) W W1):Tk w0 W1 pw N v t:=fun W' hb h'=>h W' hb (ho.trans h' (fun _ e=>e))
theorem Tk.ofS{w0 w w':World}{pw N:Nat}{v:Value}{t:Tab}(h:TabS w0 w w' N v t)(hp:pw<w.heap.size):Tk w0 w' pw N v t:=fun W' hb ho=>h.2.2 W' hb ho.size (fun b h1 h2=>ho.block b h2 (by omega))
theorem Tk.ofO{w0 w w':World}{pw N:Nat}{n r:Value}{t:Tab}(h:TabO w w' N (.agg #[n,r]) t)(hp:pw<w.heap.size):Tk w0 w' pw N (.agg #[n,r]) t:=fun W' hb ho=>
 ((GotT.of h).keep (fun b hS hlt=>ho.block b hlt (by have:=hS.1;omega))).read
theorem Tk.ofP{w0 w w':World}{pw N:Nat}{vx v:Value}{A:Tab}{X:List ByteArray}(h:PrS w0 w w' N vx v (projT A X).rows)(hX:TextsA w0 w0.heap.size vx X)(hp:pw<w.heap.size):Tk w0 w' pw N v (projT A X):=by
 obtain⟨hb,rv,rfl,X',hX1,hX2,hrj,hlow⟩:=h
 exact fun W' hW ho=>⟨vx,rv,rfl,TextsA.below hX hW,(hrj.keep hW ho.size (fun b hlt hXn=>ho.block b hlt (fun e=>hXn (hX1 b (by omega))))).read⟩
theorem Tk.nil(w0 W:World)(pw N:Nat):Tk w0 W pw N (.agg #[.slice none 0 0,.slice none 0 0]) ⟨[],[]⟩:=fun _ _ _=>(tabO_zero (Below.refl _ _)).read
def WantA(w0 W:World)(pw N:Nat)(t0 t1 t2:Tab):Prop:=
 ∃c0 c1 c2 c3 c4 c5:Value,Blk W pw #[c0,c1,c2,c3,c4,c5,.slice none 0 0,.slice none 0 0,.slice none 0 0,.slice none 0 0,.slice none 0 0,.slice none 0 0] 46∧Below w0.heap.size w0 W∧Tk w0 W pw N (.agg #[c0,c1]) t0∧Tk w0 W pw N (.agg #[c2,c3]) t1∧Tk w0 W pw N (.agg #[c4,c5]) t2
structure WantR(w0 W:World)(pw N:Nat)(T:Nat→Tab):Prop where
 bl:Below w0.heap.size w0 W
 lt:pw<W.heap.size
 pt:∀V,Below W.heap.size W V→∀k,k<6→∃x y,V.cell? ⟨pw,k * 2,none⟩=some x∧V.cell? ⟨pw,k * 2+1,none⟩=some y∧TabA V N (.agg #[x,y]) (T k)
theorem six_cases{P:Nat→Prop}(h0:P 0)(h1:P 1)(h2:P 2)(h3:P 3)(h4:P 4)(h5:P 5):∀k,k<6→P k:=fun k hk=>by
 obtain rfl|rfl|rfl|rfl|rfl|rfl:k=0∨k=1∨k=2∨k=3∨k=4∨k=5:=by omega
 all_goals assumption
theorem wantR_of{w0 W:World}{pw N:Nat}{T:Nat→Tab}{c0 c1 c2 c3 c4 c5 c6 c7 c8 c9 d0 d1:Value}(hq:Blk W pw #[c0,c1,c2,c3,c4,c5,c6,c7,c8,c9,d0,d1] 46)(hb:Below w0.heap.size w0 W)
 (h0:Tk w0 W pw N (.agg #[c0,c1]) (T 0))(h1:Tk w0 W pw N (.agg #[c2,c3]) (T 1))(h2:Tk w0 W pw N (.agg #[c4,c5]) (T 2))(h3:Tk w0 W pw N (.agg #[c6,c7]) (T 3))(h4:Tk w0 W pw N (.agg #[c8,c9]) (T 4))(h5:Tk w0 W pw N (.agg #[d0,d1]) (T 5)):WantR w0 W pw N T:=by
 refine⟨hb,hq.lt,fun V hV=>?_⟩
 have hqV:=blk_stay hq hV
 have hbV:=hb.trans (hV.mono hb.size)
 have ho:Out (fun b=>b=pw) W V:=Out.ofBelow hV
 exact six_cases ⟨_,_,hqV.cell 0 rfl,hqV.cell 1 rfl,h0 V hbV ho⟩ ⟨_,_,hqV.cell 2 rfl,hqV.cell 3 rfl,h1 V hbV ho⟩ ⟨_,_,hqV.cell 4 rfl,hqV.cell 5 rfl,h2 V hbV ho⟩ ⟨_,_,hqV.cell 6 rfl,hqV.cell 7 rfl,h3 V hbV ho⟩ ⟨_,_,hqV.cell 8 rfl,hqV.cell 9 rfl,h4 V hbV ho⟩ ⟨_,_,hqV.cell 10 rfl,hqV.cell 11 rfl,h5 V hbV ho⟩
structure GotS(T:Nat→Tab)(N:Nat)(V0 W:World)(pg:Nat)(s e:Nat→Nat):Prop where
 bl:Below V0.heap.size V0 W
 low:V0.heap.size≤pg
 lt:pg<W.heap.size
 ok:∀k,k<6→V0.heap.size≤s k∧e k≤W.heap.size∧(pg<s k∨e k≤pg)
 ord:∀k,k<6→∀j,j<k→e j≤s k
 pt:∀k,k<6→∃n r,W.cell? ⟨pg,k * 2,none⟩=some n∧W.cell? ⟨pg,k * 2+1,none⟩=some r∧GotT W N (fun b=>s k≤b∧b<e k) n r (T k)
def GotR(T:Nat→Tab)(N:Nat)(V0 W:World)(pg:Nat):Prop:=∃s e,GotS T N V0 W pg s e
def pick6(a b c d e f:Nat):Nat→Nat
 |0=>a
 |1=>b
 |2=>c
 |3=>d
 |4=>e
 |_=>f
theorem gotR_row{T:Nat→Tab}{N:Nat}{wx W:World}{pg:Nat}{n0 r0 n1 r1 n2 r2 n3 r3 n4 r4 n5 r5:Value}{s0 e0 s1 e1 s2 e2 s3 e3 s4 e4 s5 e5:Nat}{old:Array Value}
 (hq:Blk W pg old 46)(hb:Below wx.heap.size wx W)(hx:wx.heap.size≤pg)
 (G0:GotT W N (fun b=>s0≤b∧b<e0) n0 r0 (T 0))(G1:GotT W N (fun b=>s1≤b∧b<e1) n1 r1 (T 1))(G2:GotT W N (fun b=>s2≤b∧b<e2) n2 r2 (T 2))(G3:GotT W N (fun b=>s3≤b∧b<e3) n3 r3 (T 3))(G4:GotT W N (fun b=>s4≤b∧b<e4) n4 r4 (T 4))(G5:GotT W N (fun b=>s5≤b∧b<e5) n5 r5 (T 5))
 (hs:wx.heap.size≤s0∧s0≤e0∧e0≤s1∧s1≤e1∧e1≤s2∧s2≤e2∧e2≤s3∧s3≤e3∧e3≤s4∧s4≤e4∧e4≤s5∧s5≤e5∧e5≤W.heap.size)
 (hd:(pg<s0∨e0≤pg)∧(pg<s1∨e1≤pg)∧(pg<s2∨e2≤pg)∧(pg<s3∨e3≤pg)∧(pg<s4∨e4≤pg)∧(pg<s5∨e5≤pg)):GotR T N wx (W.setRow pg #[n0,r0,n1,r1,n2,r2,n3,r3,n4,r4,n5,r5]) pg:=by
 obtain⟨d0,d1,d2,d3,d4,d5⟩:=hd
 have hqF:Blk (W.setRow pg #[n0,r0,n1,r1,n2,r2,n3,r3,n4,r4,n5,r5]) pg _ _:=hq.setRow (cs':=#[n0,r0,n1,r1,n2,r2,n3,r3,n4,r4,n5,r5])
 have ho:=out_setRow W pg #[n0,r0,n1,r1,n2,r2,n3,r3,n4,r4,n5,r5]
 have hbF:=below_rowT hb hx #[n0,r0,n1,r1,n2,r2,n3,r3,n4,r4,n5,r5]
 have hlt:=hq.lt
 generalize W.setRow pg #[n0,r0,n1,r1,n2,r2,n3,r3,n4,r4,n5,r5]=WF at *
 have hsz:=ho.size
 have hG:∀{s e:Nat} {n r:Value} {t:Tab},GotT W N (fun b=>s≤b∧b<e) n r t→(pg<s∨e≤pg)→GotT WF N (fun b=>s≤b∧b<e) n r t:=fun g hd=>g.keep (fun b hS hlt=>ho.block b hlt (by have:=hS.1;have:=hS.2;omega))
 refine⟨pick6 s0 s1 s2 s3 s4 s5,pick6 e0 e1 e2 e3 e4 e5,hbF,hx,by omega,?_,?_,?_⟩
 ·refine six_cases ?_ ?_ ?_ ?_ ?_ ?_<;>simp only[pick6]<;>omega
 ·refine six_cases ?_ ?_ ?_ ?_ ?_ ?_<;>intro j hj
  ·omega
  ·obtain rfl:j=0:=by omega
   simp only[pick6];omega
  ·obtain rfl|rfl:j=0∨j=1:=by omega
   all_goals (simp only[pick6];omega)
  ·obtain rfl|rfl|rfl:j=0∨j=1∨j=2:=by omega
   all_goals (simp only[pick6];omega)
  ·obtain rfl|rfl|rfl|rfl:j=0∨j=1∨j=2∨j=3:=by omega
   all_goals (simp only[pick6];omega)
  ·obtain rfl|rfl|rfl|rfl|rfl:j=0∨j=1∨j=2∨j=3∨j=4:=by omega
   all_goals (simp only[pick6];omega)
 ·exact six_cases ⟨_,_,hqF.cell 0 rfl,hqF.cell 1 rfl,hG G0 d0⟩ ⟨_,_,hqF.cell 2 rfl,hqF.cell 3 rfl,hG G1 d1⟩ ⟨_,_,hqF.cell 4 rfl,hqF.cell 5 rfl,hG G2 d2⟩ ⟨_,_,hqF.cell 6 rfl,hqF.cell 7 rfl,hG G3 d3⟩ ⟨_,_,hqF.cell 8 rfl,hqF.cell 9 rfl,hG G4 d4⟩ ⟨_,_,hqF.cell 10 rfl,hqF.cell 11 rfl,hG G5 d5⟩
def Sx(s e:Nat→Nat)(k b:Nat):Prop:=∃j,j<k∧s j≤b∧b<e j
theorem GotS.free{T:Nat→Tab}{N:Nat}{V0 W:World}{pg:Nat}{s e:Nat→Nat}(h:GotS T N V0 W pg s e){k:Nat}(hk:k≤6):(∀b,Sx s e k b→V0.heap.size≤b)∧¬Sx s e k pg:=by
 refine⟨fun b hb=>?_,fun hb=>?_⟩
 ·obtain⟨j,hj,h1,h2⟩:=hb
  have:=h.ok j (by omega)
  omega
 ·obtain⟨j,hj,h1,h2⟩:=hb
  have:=h.ok j (by omega)
  omega
theorem GotS.below{T:Nat→Tab}{N:Nat}{V0 W wr:World}{pg:Nat}{s e:Nat→Nat}(h:GotS T N V0 W pg s e){k:Nat}(hk:k≤6)(ho:Out (Sx s e k) W wr):Below V0.heap.size V0 wr:=
 h.bl.trans (ho.below _ h.bl.size (h.free hk).1)
theorem GotS.look{T:Nat→Tab}{N:Nat}{V0 W wr:World}{pg:Nat}{s e:Nat→Nat}(h:GotS T N V0 W pg s e){k:Nat}(hk:k<6)(ho:Out (Sx s e k) W wr):
 ∃n r,wr.cell? ⟨pg,k * 2,none⟩=some n∧wr.cell? ⟨pg,k * 2+1,none⟩=some r∧GotT wr N (fun b=>s k≤b∧b<e k) n r (T k)∧e k≤wr.heap.size:=by
 obtain⟨n,r,c1,c2,g⟩:=h.pt k hk
 have hp:=(h.free (Nat.le_of_lt hk)).2
 refine⟨n,r,out_cell ho hp c1,out_cell ho hp c2,g.keep fun b hS hlt=>ho.block b hlt fun hX=>?_,Nat.le_trans (h.ok k hk).2.1 ho.size⟩
 obtain⟨j,hj,h1,h2⟩:=hX
 have:=h.ord k hk j hj
 have:=hS.1
 omega
theorem ov_out{S:Nat→Prop}{o:Option Nat}{w w':World}(h:Ov o w w')(hs:∀g,o=some g→S g):Out S w w':=
 ⟨h.grown.os,h.grown.tape,h.grown.output,h.grown.size,fun b hb hn=>h.grown.block b hb (fun e=>hn (hs b e.symm))⟩
theorem sx_next{s e:Nat→Nat}{k:Nat}{n:Value}{W wr w5 w6 w7:World}(ho:Out (Sx s e k) W wr)(hb:Below wr.heap.size wr w5)(h1:Out (fun b=>(s k≤b∧b<e k)∧n.ownBlock≠some b) w5 w6)(h2:Ov n.ownBlock w6 w7)(hn:∀g,n.ownBlock=some g→s k≤g∧g<e k):Out (Sx s e (k+1)) W w7:=by
 have a1:Out (Sx s e (k+1)) W wr:=ho.mono fun b ⟨j,hj,h⟩=>⟨j,by omega,h⟩
 have a2:Out (Sx s e (k+1)) wr w5:=Out.ofBelow hb
 have a3:Out (Sx s e (k+1)) w5 w6:=h1.mono fun b h=>⟨k,by omega,h.1⟩
 have a4:Out (Sx s e (k+1)) w6 w7:=ov_out h2 fun g hg=>⟨k,by omega,hn g hg⟩
 exact((a1.trans a2 fun _ h=>h).trans a3 fun _ h=>h).trans a4 fun _ h=>h
theorem GotT.names{N:Nat}{S:Nat→Prop}{n r:Value}{t:Tab}{w5 w6:World}(h:GotT w5 N S n r t)(ho:Out (fun b=>S b∧n.ownBlock≠some b) w5 w6):∃B,Shp w6 B 9 n t.vars.length:=by
 obtain⟨B,own⟩:=h.own
 exact⟨B,_,val.own_stay own fun g hg=>ho.block g (own.lt g hg).2 (fun e=>e.2 hg)⟩
theorem alloc_step(u:World)(cs:Array Value)(t:TypeId):∃ua pg,u.alloc (.cells cs t)=ua∧u.heap.size=pg∧Below u.heap.size u ua∧Blk ua pg cs t:=⟨_,_,rfl,rfl,(Below.refl _ _).alloc (Nat.le_refl _) _,Blk.new _ _ _⟩
theorem built_six(na0 ra0 na1 ra1 na2 ra2 na3 ra3 na4 ra4 na5 ra5:Option Addr)(nl0 nc0 rl0 rc0 nl1 nc1 rl1 rc1 nl2 nc2 rl2 rc2 nl3 nc3 rl3 rc3 nl4 nc4 rl4 rc4 nl5 nc5 rl5 rc5:Nat):Tryz.prog.built 46 [(0,.agg #[.slice na0 nl0 nc0,.slice ra0 rl0 rc0]),(1,.agg #[.slice na1 nl1 nc1,.slice ra1 rl1 rc1]),(2,.agg #[.slice na2 nl2 nc2,.slice ra2 rl2 rc2]),(3,.agg #[.slice na3 nl3 nc3,.slice ra3 rl3 rc3]),(4,.agg #[.slice na4 nl4 nc4,.slice ra4 rl4 rc4]),(5,.agg #[.slice na5 nl5 nc5,.slice ra5 rl5 rc5])]=some #[.slice na0 nl0 nc0,.slice ra0 rl0 rc0,.slice na1 nl1 nc1,.slice ra1 rl1 rc1,.slice na2 nl2 nc2,.slice ra2 rl2 rc2,.slice na3 nl3 nc3,.slice ra3 rl3 rc3,.slice na4 nl4 nc4,.slice ra4 rl4 rc4,.slice na5 nl5 nc5,.slice ra5 rl5 rc5]:=by kernel_rfl
end Go.Proofs.YtidplkfhodpdhaaGreatDoor.tab
