/- Small facts on worlds that my walks share. -/
import Derived.Test.YtmpldjbdhbapbaaGreatDoorRows
import Derived.WalkKit
import Derived.ProofKit
import Derived.OpenShut
import Derived.BigQuiet
import Derived.Lib.Hide
import Derived.Deep.RegionWith
import Derived.Deep.RegionHeld
import Derived.WalkSpells
import Derived.WalkLawsBesides
set_option linter.unusedVariables false
namespace Go.Proofs.YtmpldjbdhbapbaaGreatDoor.kit
open Go.ChangeShapes Go.WideShapes Go.ChangeAt Go.RowKit
theorem below_drewN(B:Nat)(w:World)(n:Nat):Below B w (w.drewN n):=⟨rfl,rfl,rfl,Nat.le_refl _,fun _ _=>rfl⟩
theorem Below_drewN{B:Nat}{w w':World}(n:Nat)(h:Below B w w'):Below B w (w'.drewN n):=h.trans (below_drewN B w' n)
structure Keep(m:List Nat)(w w':World):Prop where
 os:w'.os=w.os
 tape:w'.tape=w.tape
 output:w'.output=w.output
 size:w.heap.size≤w'.heap.size
 block:∀k,k<w.heap.size→k∉m→w'.heap[k]? = w.heap[k]?
theorem Keep.refl(m:List Nat)(w:World):Keep m w w:=⟨rfl,rfl,rfl,Nat.le_refl _,fun _ _ _=>rfl⟩
theorem Keep.trans{m m':List Nat}{a b c:World}(h:Keep m a b)(k:Keep m' b c)(hm:∀x∈m',x<a.heap.size→x∈m):Keep m a c:=
 ⟨k.os.trans h.os,k.tape.trans h.tape,k.output.trans h.output,Nat.le_trans h.size k.size,fun i hi hn=>
  (k.block i (Nat.lt_of_lt_of_le hi h.size) (fun hx=>hn (hm i hx hi))).trans (h.block i hi hn)⟩
theorem Keep.drewN{m:List Nat}{a b:World}(n:Nat)(h:Keep m a b):Keep m a (b.drewN n):=⟨h.os,h.tape,h.output,h.size,h.block⟩
theorem Keep.alloc{m:List Nat}{a b:World}(h:Keep m a b)(o:Obj):Keep m a (b.alloc o):=
 h.trans (m':=[]) ⟨rfl,rfl,rfl,by simp,fun k hk _=>Below.heap_alloc _ _ _ hk⟩ (by simp)
theorem Keep.setCell{m:List Nat}{a b:World}(h:Keep m a b){p:Addr}(hp:p.block<a.heap.size→p.block∈m)(u:Value):Keep m a (b.setCell p u):=
 h.trans (m':=[p.block]) ⟨rfl,rfl,rfl,by simp[World.setCell],fun k hk hn=>Below.heap_setCell _ _ _ _ (by simpa using hn)⟩ (by simpa using hp)
theorem Keep.grown{m:List Nat}{a b c:World}{row:Option Nat}(h:Keep m a b)(hg:b.grownBy c row)(hr:∀k,row=some k→k<a.heap.size→k∈m):Keep m a c:=
 h.trans (m':=row.toList) ⟨hg.os,hg.tape,hg.output,hg.size,fun k hk hn=>hg.block k hk (fun e=>hn (by simp[←e]))⟩ (fun x hx=>hr x (by simpa using hx))
theorem Keep.ofBelow{a b:World}(h:Below a.heap.size a b):Keep [] a b:=⟨h.os,h.tape,h.output,h.size,fun k hk _=>h.block k hk⟩
theorem Keep.below{a b:World}(h:Keep [] a b):Below a.heap.size a b:=⟨h.os,h.tape,h.output,h.size,fun k hk=>h.block k hk (by simp)⟩
theorem Keep.under{m:List Nat}{a b:World}(h:Keep m a b)(B:Nat)(hB:B≤a.heap.size)(hm:∀x∈m,B≤x):Below B a b:=
 ⟨h.os,h.tape,h.output,h.size,fun k hk=>h.block k (by omega) (fun hx=>by have:=hm k hx;omega)⟩
theorem Keep.mono{m m':List Nat}{a b:World}(h:Keep m a b)(hm:∀x∈m,x<a.heap.size→x∈m'):Keep m' a b:=
 ⟨h.os,h.tape,h.output,h.size,fun k hk hn=>h.block k hk (fun hx=>hn (hm k hx hk))⟩
def Blk(w:World)(b:Nat)(cs:Array Value)(t:TypeId):Prop:=w.heap[b]? = some (.cells cs t (0,0))
theorem Blk.eq{w:World}{b:Nat}{cs:Array Value}{t:TypeId}(h:Blk w b cs t):w.heap[b]? = some (.cells cs t (0,0)):=h
theorem Blk.lt{w:World}{b:Nat}{cs:Array Value}{t:TypeId}(h:Blk w b cs t):b<w.heap.size:=by
 unfold Blk at h;exact(Array.getElem?_eq_some_iff.1 h).1
theorem Blk.cell{w:World}{b:Nat}{cs:Array Value}{t:TypeId}(h:Blk w b cs t)(i:Nat){v:Value}(hv:cs[i]? = some v):w.cell? ⟨b,i,none⟩=some v:=by
 rw[cell_of_row w b i cs t (0,0) h,hv]
theorem Blk.free{w:World}{b:Nat}{cs:Array Value}{t:TypeId}(h:Blk w b cs t)(i:Nat):w.frozen? ⟨b,i,none⟩=false:=frozen_of_row w b i cs t h
theorem Blk.set{w:World}{b:Nat}{cs:Array Value}{t:TypeId}(h:Blk w b cs t)(i:Nat)(v:Value):Blk (w.setCell ⟨b,i,none⟩ v) b (cs.setIfInBounds i v) t:=heap_setCell_same w b i cs t v h
theorem Blk.set_other{w:World}{b:Nat}{cs:Array Value}{t:TypeId}(h:Blk w b cs t)(a:Addr)(hne:b≠a.block)(v:Value):Blk (w.setCell a v) b cs t:=(heap_setCell_other w a b v hne).trans h
theorem Blk.new(w:World)(cs:Array Value)(t:TypeId):Blk (w.alloc (.cells cs t)) w.heap.size cs t:=heap_alloc_new w _
theorem Blk.alloc{w:World}{b:Nat}{cs:Array Value}{t:TypeId}(h:Blk w b cs t)(o:Obj):Blk (w.alloc o) b cs t:=(Below.heap_alloc w o b h.lt).trans h
theorem Blk.setRow{w:World}{b:Nat}{cs cs':Array Value}{t:TypeId}(h:Blk w b cs t):Blk (w.setRow b cs') b cs' t:=_root_.Go.setRow_heap w b cs cs' t (0,0) h
theorem Blk.setRow_other{w:World}{b g:Nat}{cs cs':Array Value}{t:TypeId}(h:Blk w b cs t)(hne:b≠g):Blk (w.setRow g cs') b cs t:=(_root_.Go.setRow_other w g b cs' hne).trans h
theorem Keep.setRow{m:List Nat}{a b:World}(h:Keep m a b){g:Nat}(hp:g<a.heap.size→g∈m)(cs:Array Value):Keep m a (b.setRow g cs):=
 h.trans (m':=[g]) ⟨rfl,rfl,rfl,by simp,fun k hk hn=>_root_.Go.setRow_other b g k cs (by simpa using hn)⟩ (by simpa using hp)
theorem Blk.drewN{w:World}{b:Nat}{cs:Array Value}{t:TypeId}(h:Blk w b cs t)(n:Nat):Blk (w.drewN n) b cs t:=h
theorem Blk.keep{m:List Nat}{w w':World}{b:Nat}{cs:Array Value}{t:TypeId}(h:Blk w b cs t)(hk:Keep m w w')(hm:b∉m):Blk w' b cs t:=(hk.block b h.lt hm).trans h
theorem ret_int{k:IntKind}{a b:Int}(h:a=b):Ending.returned (.int k a)=.returned (.int k b):=by rw[h]
theorem ret_bool{a b:Bool}(h:a=b):Ending.returned (.bool a)=.returned (.bool b):=by rw[h]
theorem ret_val{a b:Value}(h:a=b):Ending.returned a=.returned b:=by rw[h]
section
variable{P:Program}{ops:Array Oper}{Q:Exit→Act→World→Prop}{md:Region.Mode}{S:World→Prop}
theorem tkH(i:Nat)(v:Value){oi:Oper}{fuel:Nat}{listed:Array Bool}{a a2:Act}{w:World}(hi:ops[i]? = some oi)
 (hy:∀w,S w→(execOp a.eval oi).run P w=.ok (.value v) w)(hS:S w)(h:wpAnyH P md ops Q S fuel (listed.setIfInBounds i true) a2 w)
 (hs:Region.noSelect ops=true:=by kernel_rfl)(hf:Region.free md ops listed i=true:=by kernel_rfl)(hr:(Region.ready md ops listed).contains i=true:=by kernel_rfl)
 (hQ:∀c a w,Q (.panic c) (a.put oi.dst v) w→Q (.panic c) a w:=by exact fun _ _ _ h=>h)(hg:Region.wanted oi (yielded ops a.tmps)=true:=by kernel_rfl)
 (ha:a.put oi.dst v=a2:=by simp only[List.getElem_toArray,List.getElem_cons_succ,List.getElem_cons_zero,Act.put,List.setIfInBounds_toArray,List.set_cons_zero,List.set_cons_succ];rfl):
 wpAnyH P md ops Q S (fuel+1) listed a w:=
 wpAnyH_take (i:=i) (v:=v) hi hs hf hr hQ (.inl ⟨hg,hy⟩) hS (ha ▸ h)
abbrev wpTk(_:List Nat)(P:Program)(md:Region.Mode)(ops:Array Oper)(Q:Exit→Act→World→Prop)(S:World→Prop)(fuel:Nat)(listed:Array Bool)(a:Act)(w:World):Prop:=wpAnyH P md ops Q S fuel listed a w
theorem tkS(L:List Nat){fuel:Nat}{listed:Array Bool}{a:Act}{w:World}(h:wpTk L P md ops Q S fuel listed a w):wpAnyH P md ops Q S fuel listed a w:=h
theorem tkC(v:Value){i:Nat}{L:List Nat}{oi:Oper}{fuel:Nat}{listed:Array Bool}{a a2:Act}{w:World}(hi:ops[i]? = some oi)
 (hy:∀w,S w→(execOp a.eval oi).run P w=.ok (.value v) w)(hS:S w)(h:wpTk L P md ops Q S fuel (listed.setIfInBounds i true) a2 w)
 (hs:Region.noSelect ops=true:=by kernel_rfl)(hf:Region.free md ops listed i=true:=by kernel_rfl)(hr:(Region.ready md ops listed).contains i=true:=by kernel_rfl)
 (hQ:∀c a w,Q (.panic c) (a.put oi.dst v) w→Q (.panic c) a w:=by exact fun _ _ _ h=>h)(hg:Region.wanted oi (yielded ops a.tmps)=true:=by kernel_rfl)
 (ha:a.put oi.dst v=a2:=by simp only[List.getElem_toArray,List.getElem_cons_succ,List.getElem_cons_zero,Act.put,List.setIfInBounds_toArray,List.set_cons_zero,List.set_cons_succ];rfl):
 wpTk (i::L) P md ops Q S (fuel+1) listed a w:=tkH i v hi hy hS h hs hf hr hQ hg ha
theorem tkV{i:Nat}{L:List Nat}{oi:Oper}{fuel:Nat}{listed:Array Bool}{a a2:Act}{w:World}(hi:ops[i]? = some oi)(hS:S w)(h:wpTk L P md ops Q S fuel (listed.setIfInBounds i true) a2 w)
 (hs:Region.noSelect ops=true:=by kernel_rfl)(hf:Region.free md ops listed i=true:=by kernel_rfl)(hr:(Region.ready md ops listed).contains i=true:=by kernel_rfl)
 (hQ:∀c a w,Q (.panic c) (a.put oi.dst undef) w→Q (.panic c) a w:=by exact fun _ _ _ h=>h)(hg:Region.wanted oi (yielded ops a.tmps)=false:=by kernel_rfl)
 (ha:a.put oi.dst undef=a2:=by simp only[List.getElem_toArray,List.getElem_cons_succ,List.getElem_cons_zero,Act.put,List.setIfInBounds_toArray,List.set_cons_zero,List.set_cons_succ];rfl):
 wpTk (i::L) P md ops Q S (fuel+1) listed a w:=wpAnyH_take (i:=i) (v:=undef) hi hs hf hr hQ (.inr ⟨hg,rfl⟩) hS (ha ▸ h)
theorem rdH(i:Nat){o:Oper}{fuel:Nat}{listed:Array Bool}{a:Act}{w:World}(ho:ops[i]? = some o)
 (h:∀K':Act→World→Prop,Shut (∀a w,S w→(S w→wpAnyH P md ops Q S fuel (listed.setIfInBounds i true) a w)→K' a w)→if Region.wanted o (yielded ops a.tmps)=true then Oper.wp P o a w K' Q else K' (a.put o.dst undef) w)
 (hr:Region.ready md ops listed=[i]:=by kernel_rfl):wpAnyH P md ops Q S (fuel+1) listed a w:=
 wpAnyH_ready hr (by simp) (.cons ho h .nil)
end
theorem hKo{K':Act→World→Prop}{S:World→Prop}{R:Act→World→Prop}{a a2:Act}{w:World}(hK:Shut (∀a w,S w→(S w→R a w)→K' a w))(hS:S w)(h:S w→R a2 w)
 (ha:a=a2:=by first|(simp only[List.getElem_toArray,List.getElem_cons_succ,List.getElem_cons_zero,Act.put,List.setIfInBounds_toArray,List.set_cons_zero,List.set_cons_succ];rfl)|rfl):K' a w:=hK.out _ _ hS (ha ▸ h)
end Go.Proofs.YtmpldjbdhbapbaaGreatDoor.kit
namespace Go.Proofs.YtmpldjbdhbapbaaGreatDoor
theorem Hd{p:Prop}(h:p):Go.RowKit.Hid p:=h
end Go.Proofs.YtmpldjbdhbapbaaGreatDoor
