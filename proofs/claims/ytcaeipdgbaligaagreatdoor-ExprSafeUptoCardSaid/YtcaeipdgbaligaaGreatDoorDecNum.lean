/- Texts Kit, ValMem, DecNum, one behind the other. -/
import Derived.Test.YtcaeipdgbaligaaGreatDoorRows
import Derived.WalkKit
import Derived.ProofKit
import Derived.OpenShut
import Derived.BigQuiet
import Derived.Lib.Hide
import Derived.Deep.RegionWith
import Derived.Deep.RegionHeld
import Derived.WalkSpells
import Derived.WalkLawsBesides
import Derived.ChangeArms
import Derived.RangeFuncOwn
import Derived.Lib.ItoaNum
set_option linter.unusedVariables false
namespace Go.Proofs.YtcaeipdgbaligaaGreatDoor.kit
open Go.ChangeShapes Go.WideShapes Go.ChangeAt Go.RowKit
theorem below_drewN(B:Nat)(w:World)(n:Nat):Below B w (w.drewN n):=⟨rfl,rfl,rfl,Nat.le_refl _,fun _ _=>rfl⟩
theorem Below_drewN{B:Nat}{w w':World}(n:Nat)(h:Below B w w'):Below B w (w'.drewN n):=h.trans (below_drewN B w' n)
structure Keep(m:List Nat)(w w':World):Prop where
 os:w'.os=w.os
 tape:w'.tape=w.tape
 output:w'.output=w.output
 size:w.heap.size≤w'.heap.size
 block:∀k,k<w.heap.size→k∉m→w'.heap[k]? = w.heap[k]?
theorem Keep.refl(m:List Nat)(w:World):Keep m w w:=⟨rfl,rfl,rfl,Nat.le_refl _,fun _ _ _=>rfl⟩
theorem Keep.trans{m m':List Nat}{a b c:World}(h:Keep m a b)(k:Keep m' b c)(hm:∀x∈m',x<a.heap.size→x∈m):Keep m a c:=
 ⟨k.os.trans h.os,k.tape.trans h.tape,k.output.trans h.output,Nat.le_trans h.size k.size,fun i hi hn=>
  (k.block i (Nat.lt_of_lt_of_le hi h.size) (fun hx=>hn (hm i hx hi))).trans (h.block i hi hn)⟩
theorem Keep.drewN{m:List Nat}{a b:World}(n:Nat)(h:Keep m a b):Keep m a (b.drewN n):=⟨h.os,h.tape,h.output,h.size,h.block⟩
theorem Keep.alloc{m:List Nat}{a b:World}(h:Keep m a b)(o:Obj):Keep m a (b.alloc o):=
 h.trans (m':=[]) ⟨rfl,rfl,rfl,by simp,fun k hk _=>Below.heap_alloc _ _ _ hk⟩ (by simp)
theorem Keep.setCell{m:List Nat}{a b:World}(h:Keep m a b){p:Addr}(hp:p.block<a.heap.size→p.block∈m)(u:Value):Keep m a (b.setCell p u):=
 h.trans (m':=[p.block]) ⟨rfl,rfl,rfl,by simp[World.setCell],fun k hk hn=>Below.heap_setCell _ _ _ _ (by simpa using hn)⟩ (by simpa using hp)
theorem Keep.grown{m:List Nat}{a b c:World}{row:Option Nat}(h:Keep m a b)(hg:b.grownBy c row)(hr:∀k,row=some k→k<a.heap.size→k∈m):Keep m a c:=
 h.trans (m':=row.toList) ⟨hg.os,hg.tape,hg.output,hg.size,fun k hk hn=>hg.block k hk (fun e=>hn (by simp[←e]))⟩ (fun x hx=>hr x (by simpa using hx))
theorem Keep.ofBelow{a b:World}(h:Below a.heap.size a b):Keep [] a b:=⟨h.os,h.tape,h.output,h.size,fun k hk _=>h.block k hk⟩
theorem Keep.below{a b:World}(h:Keep [] a b):Below a.heap.size a b:=⟨h.os,h.tape,h.output,h.size,fun k hk=>h.block k hk (by simp)⟩
theorem Keep.under{m:List Nat}{a b:World}(h:Keep m a b)(B:Nat)(hB:B≤a.heap.size)(hm:∀x∈m,B≤x):Below B a b:=
 ⟨h.os,h.tape,h.output,h.size,fun k hk=>h.block k (by omega) (fun hx=>by have:=hm k hx;omega)⟩
theorem Keep.mono{m m':List Nat}{a b:World}(h:Keep m a b)(hm:∀x∈m,x<a.heap.size→x∈m'):Keep m' a b:=
 ⟨h.os,h.tape,h.output,h.size,fun k hk hn=>h.block k hk (fun hx=>hn (hm k hx hk))⟩
def Blk(w:World)(b:Nat)(cs:Array Value)(t:TypeId):Prop:=w.heap[b]? = some (.cells cs t (0,0))
theorem Blk.eq{w:World}{b:Nat}{cs:Array Value}{t:TypeId}(h:Blk w b cs t):w.heap[b]? = some (.cells cs t (0,0)):=h
theorem Blk.lt{w:World}{b:Nat}{cs:Array Value}{t:TypeId}(h:Blk w b cs t):b<w.heap.size:=by
 unfold Blk at h;exact(Array.getElem?_eq_some_iff.1 h).1
theorem Blk.cell{w:World}{b:Nat}{cs:Array Value}{t:TypeId}(h:Blk w b cs t)(i:Nat){v:Value}(hv:cs[i]? = some v):w.cell? ⟨b,i,none⟩=some v:=by
 rw[cell_of_row w b i cs t (0,0) h,hv]
theorem Blk.free{w:World}{b:Nat}{cs:Array Value}{t:TypeId}(h:Blk w b cs t)(i:Nat):w.frozen? ⟨b,i,none⟩=false:=frozen_of_row w b i cs t h
theorem Blk.set{w:World}{b:Nat}{cs:Array Value}{t:TypeId}(h:Blk w b cs t)(i:Nat)(v:Value):Blk (w.setCell ⟨b,i,none⟩ v) b (cs.setIfInBounds i v) t:=heap_setCell_same w b i cs t v h
theorem Blk.set_other{w:World}{b:Nat}{cs:Array Value}{t:TypeId}(h:Blk w b cs t)(a:Addr)(hne:b≠a.block)(v:Value):Blk (w.setCell a v) b cs t:=(heap_setCell_other w a b v hne).trans h
theorem Blk.new(w:World)(cs:Array Value)(t:TypeId):Blk (w.alloc (.cells cs t)) w.heap.size cs t:=heap_alloc_new w _
theorem Blk.alloc{w:World}{b:Nat}{cs:Array Value}{t:TypeId}(h:Blk w b cs t)(o:Obj):Blk (w.alloc o) b cs t:=(Below.heap_alloc w o b h.lt).trans h
theorem Blk.setRow{w:World}{b:Nat}{cs cs':Array Value}{t:TypeId}(h:Blk w b cs t):Blk (w.setRow b cs') b cs' t:=_root_.Go.setRow_heap w b cs cs' t (0,0) h
theorem Blk.setRow_other{w:World}{b g:Nat}{cs cs':Array Value}{t:TypeId}(h:Blk w b cs t)(hne:b≠g):Blk (w.setRow g cs') b cs t:=(_root_.Go.setRow_other w g b cs' hne).trans h
theorem Keep.setRow{m:List Nat}{a b:World}(h:Keep m a b){g:Nat}(hp:g<a.heap.size→g∈m)(cs:Array Value):Keep m a (b.setRow g cs):=
 h.trans (m':=[g]) ⟨rfl,rfl,rfl,by simp,fun k hk hn=>_root_.Go.setRow_other b g k cs (by simpa using hn)⟩ (by simpa using hp)
theorem Blk.drewN{w:World}{b:Nat}{cs:Array Value}{t:TypeId}(h:Blk w b cs t)(n:Nat):Blk (w.drewN n) b cs t:=h
theorem Blk.keep{m:List Nat}{w w':World}{b:Nat}{cs:Array Value}{t:TypeId}(h:Blk w b cs t)(hk:Keep m w w')(hm:b∉m):Blk w' b cs t:=(hk.block b h.lt hm).trans h
theorem ret_int{k:IntKind}{a b:Int}(h:a=b):Ending.returned (.int k a)=.returned (.int k b):=by rw[h]
theorem ret_bool{a b:Bool}(h:a=b):Ending.returned (.bool a)=.returned (.bool b):=by rw[h]
theorem ret_val{a b:Value}(h:a=b):Ending.returned a=.returned b:=by rw[h]
section
variable{P:Program}{ops:Array Oper}{Q:Exit→Act→World→Prop}{md:Region.Mode}{S:World→Prop}
theorem tkH(i:Nat)(v:Value){oi:Oper}{fuel:Nat}{listed:Array Bool}{a a2:Act}{w:World}(hi:ops[i]? = some oi)
 (hy:∀w,S w→(execOp a.eval oi).run P w=.ok (.value v) w)(hS:S w)(h:wpAnyH P md ops Q S fuel (listed.setIfInBounds i true) a2 w)
 (hs:Region.noSelect ops=true:=by kernel_rfl)(hf:Region.free md ops listed i=true:=by kernel_rfl)(hr:(Region.ready md ops listed).contains i=true:=by kernel_rfl)
 (hQ:∀c a w,Q (.panic c) (a.put oi.dst v) w→Q (.panic c) a w:=by exact fun _ _ _ h=>h)(hg:Region.wanted oi (yielded ops a.tmps)=true:=by kernel_rfl)
 (ha:a.put oi.dst v=a2:=by simp only[List.getElem_toArray,List.getElem_cons_succ,List.getElem_cons_zero,Act.put,List.setIfInBounds_toArray,List.set_cons_zero,List.set_cons_succ];rfl):
 wpAnyH P md ops Q S (fuel+1) listed a w:=
 wpAnyH_take (i:=i) (v:=v) hi hs hf hr hQ (.inl ⟨hg,hy⟩) hS (ha ▸ h)
abbrev wpTk(_:List Nat)(P:Program)(md:Region.Mode)(ops:Array Oper)(Q:Exit→Act→World→Prop)(S:World→Prop)(fuel:Nat)(listed:Array Bool)(a:Act)(w:World):Prop:=wpAnyH P md ops Q S fuel listed a w
theorem tkS(L:List Nat){fuel:Nat}{listed:Array Bool}{a:Act}{w:World}(h:wpTk L P md ops Q S fuel listed a w):wpAnyH P md ops Q S fuel listed a w:=h
theorem tkC(v:Value){i:Nat}{L:List Nat}{oi:Oper}{fuel:Nat}{listed:Array Bool}{a a2:Act}{w:World}(hi:ops[i]? = some oi)
 (hy:∀w,S w→(execOp a.eval oi).run P w=.ok (.value v) w)(hS:S w)(h:wpTk L P md ops Q S fuel (listed.setIfInBounds i true) a2 w)
 (hs:Region.noSelect ops=true:=by kernel_rfl)(hf:Region.free md ops listed i=true:=by kernel_rfl)(hr:(Region.ready md ops listed).contains i=true:=by kernel_rfl)
 (hQ:∀c a w,Q (.panic c) (a.put oi.dst v) w→Q (.panic c) a w:=by exact fun _ _ _ h=>h)(hg:Region.wanted oi (yielded ops a.tmps)=true:=by kernel_rfl)
 (ha:a.put oi.dst v=a2:=by simp only[List.getElem_toArray,List.getElem_cons_succ,List.getElem_cons_zero,Act.put,List.setIfInBounds_toArray,List.set_cons_zero,List.set_cons_succ];rfl):
 wpTk (i::L) P md ops Q S (fuel+1) listed a w:=tkH i v hi hy hS h hs hf hr hQ hg ha
theorem rdH(i:Nat){o:Oper}{fuel:Nat}{listed:Array Bool}{a:Act}{w:World}(ho:ops[i]? = some o)
 (h:∀K':Act→World→Prop,Shut (∀a w,S w→(S w→wpAnyH P md ops Q S fuel (listed.setIfInBounds i true) a w)→K' a w)→if Region.wanted o (yielded ops a.tmps)=true then Oper.wp P o a w K' Q else K' (a.put o.dst undef) w)
 (hr:Region.ready md ops listed=[i]:=by kernel_rfl):wpAnyH P md ops Q S (fuel+1) listed a w:=
 wpAnyH_ready hr (by simp) (.cons ho h .nil)
end
theorem hKo{K':Act→World→Prop}{S:World→Prop}{R:Act→World→Prop}{a a2:Act}{w:World}(hK:Shut (∀a w,S w→(S w→R a w)→K' a w))(hS:S w)(h:S w→R a2 w)
 (ha:a=a2:=by first|(simp only[List.getElem_toArray,List.getElem_cons_succ,List.getElem_cons_zero,Act.put,List.setIfInBounds_toArray,List.set_cons_zero,List.set_cons_succ];rfl)|rfl):K' a w:=hK.out _ _ hS (ha ▸ h)
end Go.Proofs.YtcaeipdgbaligaaGreatDoor.kit
namespace Go.Proofs.YtcaeipdgbaligaaGreatDoor
theorem Hd{p:Prop}(h:p):Go.RowKit.Hid p:=h
end Go.Proofs.YtcaeipdgbaligaaGreatDoor
set_option linter.unusedSimpArgs false
set_option linter.unusedVariables false
set_option maxRecDepth 100000
namespace Go.Proofs.YtcaeipdgbaligaaGreatDoor.val
open Go.ChangeShapes Go.WideShapes Go.ChangeAt Go.RowKit kit
inductive V where
 |mk (kind:Int) (b:Bool) (n:Int) (t x:ByteArray) (l:List V)
def In64(n:Int):Prop:=-9223372036854775808≤n∧n≤9223372036854775807
structure Row6(w:World)(b o:Nat)(k:Int)(bo:Bool)(n:Int)(t x:ByteArray)(s:Value):Prop where
 lt:b<w.heap.size
 c0:w.cell? ⟨b,o,none⟩=some (.int .i64 k)
 c1:w.cell? ⟨b,o+1,none⟩=some (.bool bo)
 c2:w.cell? ⟨b,o+2,none⟩=some (.int .i64 n)
 c3:w.cell? ⟨b,o+3,none⟩=some (.string t)
 c4:w.cell? ⟨b,o+4,none⟩=some (.string x)
 c5:w.cell? ⟨b,o+5,none⟩=some s
theorem Row6.below{w w':World}{b o:Nat}{k:Int}{bo:Bool}{n:Int}{t x:ByteArray}{s:Value}(h:Row6 w b o k bo n t x s)(hb:Below w.heap.size w w'):Row6 w' b o k bo n t x s:=
 ⟨Nat.lt_of_lt_of_le h.lt hb.size,(hb.cell (p:=⟨b,o,none⟩) h.lt).trans h.c0,(hb.cell (p:=⟨b,o+1,none⟩) h.lt).trans h.c1,(hb.cell (p:=⟨b,o+2,none⟩) h.lt).trans h.c2,
  (hb.cell (p:=⟨b,o+3,none⟩) h.lt).trans h.c3,(hb.cell (p:=⟨b,o+4,none⟩) h.lt).trans h.c4,(hb.cell (p:=⟨b,o+5,none⟩) h.lt).trans h.c5⟩
def agg6(k:Int)(b:Bool)(n:Int)(t x:ByteArray)(s:Value):Value:=.agg #[.int .i64 k,.bool b,.int .i64 n,.string t,.string x,s]
mutual
inductive LA(w:World)(N:Nat):Value→List V→Prop
 |mk (ao:Option Addr) (cap:Nat) (l:List V) (hl:l.length≤N) (h:∀j (hj:j<l.length),EA w N ao (6 * j) l[j]):LA w N (.slice ao l.length cap) l
inductive EA(w:World)(N:Nat):Option Addr→Nat→V→Prop
 |mk (b off o:Nat) (k:Int) (bo:Bool) (n:Int) (t x:ByteArray) (l:List V) (s:Value) (hr:Row6 w b (off+o) k bo n t x s) (hk:In64 k) (hn:In64 n) (ht:t.size≤N) (hx:x.size≤N) (hs:LA w N s l):EA w N (some ⟨b,off,none⟩) o (.mk k bo n t x l)
end
structure VA(w:World)(N:Nat)(a:Value)(k:Int)(b:Bool)(n:Int)(t x:ByteArray)(l:List V):Prop where
 ex:∃s,a=agg6 k b n t x s∧LA w N s l
 hk:In64 k
 hn:In64 n
 ht:t.size≤N
 hx:x.size≤N
mutual
theorem LA.stay{w w':World}{N:Nat}(hb:Below w.heap.size w w'):∀{s:Value} {l:List V},LA w N s l→LA w' N s l
 |_,_,.mk ao cap l hl h=>.mk ao cap l hl (fun j hj=>EA.stay hb (h j hj))
theorem EA.stay{w w':World}{N:Nat}(hb:Below w.heap.size w w'):∀{ao:Option Addr} {o:Nat} {v:V},EA w N ao o v→EA w' N ao o v
 |_,_,_,.mk b off o k bo n t x l s hr hk hn ht hx hs=>.mk b off o k bo n t x l s (hr.below hb) hk hn ht hx (LA.stay hb hs)
end
theorem VA.below{w w':World}{N:Nat}{a:Value}{k:Int}{b:Bool}{n:Int}{t x:ByteArray}{l:List V}(h:VA w N a k b n t x l)(hb:Below w.heap.size w w'):VA w' N a k b n t x l:=by
 obtain⟨s,ha,hs⟩:=h.ex
 exact⟨⟨s,ha,hs.stay hb⟩,h.hk,h.hn,h.ht,h.hx⟩
theorem bulk_one{H:Type}(d:DataW H):1≤Rows.uptoBulk d:=by
 cases d with
 |lit l=>cases l<;>simp[Rows.uptoBulk]
 |_=>simp[Rows.uptoBulk]
theorem bulk_mem{H:Type}(ds:List (DataW H))(d:DataW H)(h:d∈ds):Rows.uptoBulk d≤Rows.uptoBulkAll ds:=by
 induction ds with
 |nil=>cases h
 |cons e r ih=>
  rw[Rows.uptoBulkAll]
  rcases List.mem_cons.1 h with rfl|h
  ·omega
  ·have:=ih h;omega
theorem bulk_len{H:Type}(ds:List (DataW H)):ds.length≤Rows.uptoBulkAll ds:=by
 induction ds with
 |nil=>simp
 |cons e r ih=>
  rw[Rows.uptoBulkAll,List.length_cons]
  have:=bulk_one e
  omega
def Bd{H:Type}(N:Nat)(d:DataW H):Prop:=N=maxLen∨Rows.uptoBulk d≤N
theorem Bd.agg{H:Type}{N:Nat}{ds:List (DataW H)}{d:DataW H}(h:Bd N (.agg ds))(hd:d∈ds):Bd N d:=by
 rcases h with h|h
 ·exact .inl h
 ·rw[Rows.uptoBulk]at h
  have:=bulk_mem ds d hd
  exact .inr (by omega)
theorem Bd.elem{H:Type}{N:Nat}{es rs:List (DataW H)}{d:DataW H}(h:Bd N (.slice es rs))(hd:d∈es):Bd N d:=by
 rcases h with h|h
 ·exact .inl h
 ·rw[Rows.uptoBulk]at h
  have:=bulk_mem es d hd
  exact .inr (by omega)
theorem Bd.len{H:Type}{N:Nat}{es rs:List (DataW H)}(h:Bd N (.slice es rs))(hm:es.length≤maxLen):es.length≤N:=by
 rcases h with h|h
 ·omega
 ·rw[Rows.uptoBulk]at h
  have:=bulk_len es
  omega
theorem Bd.text{H:Type}{N:Nat}{s:ByteArray}(h:Bd (H:=H) N (.lit (.string s.data.toList)))(hm:s.size≤maxLen):s.size≤N:=by
 rcases h with h|h
 ·omega
 ·rw[Rows.uptoBulk]at h
  have:s.data.toList.length=s.size:=by simp
  omega
theorem wf64{n:Int}(h:(Lit.int .i64 n).wf=true):In64 n:=by
 simp only[Lit.wf,IntKind.min,IntKind.max,IntKind.signed,IntKind.bits,Bool.and_eq_true,decide_eq_true_eq,if_true]at h
 exact⟨by have:=h.1;omega,by have:=h.2;omega⟩
section
variable{H:Type}{enc:TypeId×Value→H}{W:World}{N:Nat}
end
end Go.Proofs.YtcaeipdgbaligaaGreatDoor.val
set_option linter.unusedVariables false
namespace Go.Proofs.YtcaeipdgbaligaaGreatDoor.dec
def dg(d:Nat):UInt8:=UInt8.ofNat (48+d)
def isD(c:UInt8):Bool:=decide (48≤c.toNat∧c.toNat≤57)
def dv(c:UInt8):Nat:=c.toNat-48
theorem dg_toNat{d:Nat}(h:d<10):(dg d).toNat=48+d:=by unfold dg;rw[UInt8.toNat_ofNat'];omega
theorem isD_dg{d:Nat}(h:d<10):isD (dg d)=true:=by unfold isD;rw[dg_toNat h];simp;omega
theorem dv_dg{d:Nat}(h:d<10):dv (dg d)=d:=by unfold dv;rw[dg_toNat h];omega
theorem dg_dv{c:UInt8}(h:isD c=true):dg (dv c)=c:=by
 unfold isD at h;simp at h
 apply UInt8.toNat_inj.1
 rw[dg_toNat (by unfold dv;omega)];unfold dv;omega
theorem dv_lt{c:UInt8}(h:isD c=true):dv c<10:=by unfold isD at h;simp at h;unfold dv;omega
def allD(l:List UInt8):Bool:=l.all isD
@[simp] theorem allD_nil:allD []=true:=rfl
@[simp] theorem allD_cons(c:UInt8)(l:List UInt8):allD (c::l)=(isD c&&allD l):=rfl
@[simp] theorem allD_append(l m:List UInt8):allD (l++m)=(allD l&&allD m):=by simp[allD]
theorem allD_take{l:List UInt8}(k:Nat)(h:allD l=true):allD (l.take k)=true:=by
 simp only[allD,List.all_eq_true]at *;exact fun c hc=>h c (List.mem_of_mem_take hc)
theorem allD_drop{l:List UInt8}(k:Nat)(h:allD l=true):allD (l.drop k)=true:=by
 simp only[allD,List.all_eq_true]at *;exact fun c hc=>h c (List.mem_of_mem_drop hc)
theorem allD_replicate(k:Nat):allD (List.replicate k 48)=true:=by
 simp only[allD,List.all_eq_true];intro c hc;rw[(List.mem_replicate.1 hc).2];decide
theorem rev_ind{P:List UInt8→Prop}(h0:P [])(h1:∀l c,P l→P (l++[c]))(l:List UInt8):P l:=by
 have:∀m:List UInt8,P m.reverse:=by
  intro m
  induction m with
  |nil=>exact h0
  |cons c m ih=>rw[List.reverse_cons];exact h1 _ _ ih
 have h:=this l.reverse
 rwa [List.reverse_reverse]at h
def val(l:List UInt8):Nat:=l.foldl (fun a c=>a * 10+dv c) 0
theorem foldl_val(l:List UInt8):∀a,l.foldl (fun a c=>a * 10+dv c) a=a * 10 ^ l.length+val l:=by
 induction l with
 |nil=>intro a;simp[val]
 |cons c l ih=>
  intro a
  simp only[List.foldl_cons,val,Nat.zero_mul,Nat.zero_add,List.length_cons]
  rw[ih,ih (dv c),Nat.pow_succ,Nat.add_mul,Nat.mul_assoc,Nat.mul_comm 10,Nat.add_assoc]
theorem val_append(l m:List UInt8):val (l++m)=val l * 10 ^ m.length+val m:=by
 unfold val;rw[List.foldl_append,foldl_val];rfl
theorem val_snoc(l:List UInt8)(c:UInt8):val (l++[c])=val l * 10+dv c:=by rw[val_append];simp[val]
theorem val_cons(c:UInt8)(l:List UInt8):val (c::l)=dv c * 10 ^ l.length+val l:=by
 rw[show c::l=[c]++l from rfl,val_append];simp[val]
theorem val_lt{l:List UInt8}(h:allD l=true):val l<10 ^ l.length:=by
 induction l with
 |nil=>simp[val]
 |cons c l ih=>
  rw[allD_cons,Bool.and_eq_true]at h
  rw[val_cons,List.length_cons,Nat.pow_succ]
  have h1:=dv_lt h.1
  have h2:=ih h.2
  have:dv c * 10 ^ l.length≤9 * 10 ^ l.length:=Nat.mul_le_mul_right _ (by omega)
  omega
theorem val_replicate(k:Nat):val (List.replicate k 48)=0:=by
 induction k with
 |zero=>rfl
 |succ k ih=>rw[List.replicate_succ,val_cons,ih];simp[dv]
def pad:Nat→Nat→List UInt8
 |0,_=>[]
 |k+1,n=>pad k (n / 10)++[dg (n % 10)]
@[simp] theorem pad_length:∀k n,(pad k n).length=k
 |0,_=>rfl
 |k+1,n=>by simp[pad,pad_length k]
theorem pad_allD:∀k n,allD (pad k n)=true
 |0,_=>rfl
 |k+1,n=>by simp[pad,pad_allD k,isD_dg (Nat.mod_lt n (show 0<10 by decide))]
theorem pad_val:∀k n,val (pad k n)=n % 10 ^ k
 |0,n=>by simp[pad,val,Nat.mod_one]
 |k+1,n=>by
  rw[pad,val_snoc,pad_val k,dv_dg (Nat.mod_lt _ (by decide)),Nat.pow_succ,Nat.mul_comm (10 ^ k) 10,Nat.mod_mul]
  omega
theorem pad_of_val{l:List UInt8}(h:allD l=true):pad l.length (val l)=l:=by
 revert h
 refine rev_ind (P:=fun l=>allD l=true→pad l.length (val l)=l) (fun _=>rfl) ?_ l
 ·intro l c ih h
  simp only[allD_append,Bool.and_eq_true,allD_cons,allD_nil,Bool.and_true]at h
  have:=dv_lt h.2
  rw[val_snoc,List.length_append,List.length_singleton,pad,show(val l * 10+dv c) / 10=val l by omega,show(val l * 10+dv c) % 10=dv c by omega,ih h.1,dg_dv h.2]
theorem pad_mod(k n:Nat):pad k (n % 10 ^ k)=pad k n:=by
 have h:=pad_of_val (pad_allD k n)
 rw[pad_length,pad_val]at h
 exact h
def trimL(l:List UInt8):List UInt8:=l.dropWhile (·==48)
def trimR(l:List UInt8):List UInt8:=(l.reverse.dropWhile (·==48)).reverse
def digs(n:Nat):List UInt8:=if n=0 then[] else Lib.decDigits n
theorem digs_step(n:Nat)(h:n≠0):digs n=digs (n / 10)++[dg (n % 10)]:=by
 unfold digs
 rw[if_neg h,Lib.decDigits]
 by_cases h9:n<10
 ·rw[dif_pos h9,if_pos (by omega),show n % 10=n by omega];rfl
 ·rw[dif_neg h9,if_neg (by omega)];rfl
theorem trimL_snoc(l:List UInt8)(c:UInt8):trimL (l++[c])=if trimL l=[] then trimL [c] else trimL l++[c]:=by
 induction l with
 |nil=>simp[trimL]
 | cons a l ih =>
  by_cases ha:a=48
  ·have e:∀m,trimL (a::m)=trimL m:=fun m=>by subst ha;rfl
   rw[List.cons_append,e,e];exact ih
  ·have e:∀m,trimL (a::m)=a::m:=fun m=>by unfold trimL;rw[List.dropWhile_cons_of_neg (by simpa using ha)]
   rw[List.cons_append,e,e];simp
theorem trimL_eq{l:List UInt8}(h:allD l=true):trimL l=digs (val l):=by
 revert h
 refine rev_ind (P:=fun l=>allD l=true→trimL l=digs (val l)) (fun _=>rfl) ?_ l
 ·intro l c ih h
  simp only[allD_append,Bool.and_eq_true,allD_cons,allD_nil,Bool.and_true]at h
  have hc:=dv_lt h.2
  have hd:digs (val l)=[]↔val l=0:=by
   constructor
   ·intro h0
    apply Classical.byContradiction
    intro h1
    rw[digs_step _ h1]at h0;simp at h0
   ·intro h0;rw[h0];rfl
  rw[trimL_snoc,ih h.1,val_snoc]
  by_cases h0:val l=0
  ·rw[if_pos (hd.2 h0),h0,Nat.zero_mul,Nat.zero_add]
   unfold trimL
   by_cases hz:c==48
   ·have:c=48:=by simpa using hz
    subst this;simp[dv,digs]
   ·have hz':dv c≠0:=by
     intro h1
     have:=dg_dv h.2
     rw[h1]at this
     exact hz (by rw[←this];rfl)
    rw[digs_step _ hz',show dv c / 10=0 by omega,show dv c % 10=dv c by omega,dg_dv h.2]
    simp[digs,hz]
  ·rw[if_neg (fun h1=>h0 (hd.1 h1)),digs_step (val l * 10+dv c) (by omega),show(val l * 10+dv c) / 10=val l by omega,show(val l * 10+dv c) % 10=dv c by omega,dg_dv h.2]
theorem digs_allD(n:Nat):allD (digs n)=true:=by
 induction n using Nat.strongRecOn with
 |_ n ih=>
  by_cases h:n=0
  ·subst h;rfl
  ·rw[digs_step n h];simp[ih (n / 10) (by omega),isD_dg (Nat.mod_lt n (show 0<10 by decide))]
theorem digs_val(n:Nat):val (digs n)=n:=by
 induction n using Nat.strongRecOn with
 |_ n ih=>
  by_cases h:n=0
  ·subst h;rfl
  ·rw[digs_step n h,val_snoc,ih (n / 10) (by omega),dv_dg (Nat.mod_lt _ (by decide))];omega
theorem digs_nil{n:Nat}:digs n=[]↔n=0:=by
 constructor
 ·intro h;rw[←digs_val n,h];rfl
 ·intro h;subst h;rfl
theorem digs_lt(n k:Nat):(digs n).length≤k↔n<10 ^ k:=by
 constructor
 ·intro h
  have:=val_lt (digs_allD n)
  rw[digs_val]at this
  exact Nat.lt_of_lt_of_le this (Nat.pow_le_pow_right (by decide) h)
 ·intro h
  induction k generalizing n with
  |zero=>rw[show n=0 by simpa using h];simp[digs]
  | succ k ih =>
   by_cases h0:n=0
   ·subst h0;simp[digs]
   ·rw[digs_step n h0]
    have:=ih (n / 10) (by rw[Nat.pow_succ]at h;omega)
    simp;omega
theorem trimR_snoc(l:List UInt8)(c:UInt8):trimR (l++[c])=if c==48 then trimR l else l++[c]:=by
 unfold trimR
 by_cases h:c==48<;>simp[h]
def frac(k r:Nat):List UInt8:=trimR (pad k r)
theorem frac_zero(r:Nat):frac 0 r=[]:=rfl
theorem frac_step(k r:Nat):frac (k+1) r=if r % 10=0 then frac k (r / 10) else pad (k+1) r:=by
 unfold frac
 rw[pad,trimR_snoc]
 by_cases h:r % 10=0
 ·rw[if_pos h,h];rfl
 ·rw[if_neg h]
  have:(dg (r % 10)==48)=false:=by
   apply Bool.eq_false_iff.2
   intro h1
   have h2:dg (r % 10)=48:=by simpa using h1
   have:=congrArg dv h2
   rw[dv_dg (Nat.mod_lt _ (by decide))]at this
   exact h this
  rw[this];rfl
theorem frac_length(k r:Nat):(frac k r).length≤k:=by
 induction k generalizing r with
 |zero=>simp[frac_zero]
 |succ k ih=>
  rw[frac_step]
  split
  ·have:=ih (r / 10);omega
  ·simp
theorem frac_allD(k r:Nat):allD (frac k r)=true:=by
 induction k generalizing r with
 |zero=>rfl
 |succ k ih=>
  rw[frac_step]
  split
  ·exact ih _
  ·exact pad_allD _ _
theorem frac_val(k r:Nat):val (frac k r) * 10 ^ (k-(frac k r).length)=r % 10 ^ k:=by
 induction k generalizing r with
 |zero=>simp[frac_zero,val,Nat.mod_one]
 | succ k ih =>
  rw[frac_step]
  split
  ·rename_i h
   have h1:=ih (r / 10)
   have h2:=frac_length k (r / 10)
   rw[show k+1-(frac k (r / 10)).length=(k-(frac k (r / 10)).length)+1 by omega,Nat.pow_succ,←Nat.mul_assoc,h1,Nat.pow_succ,Nat.mul_comm (10 ^ k) 10,Nat.mod_mul,h]
   omega
  ·rw[pad_length,Nat.sub_self,Nat.pow_zero,Nat.mul_one,pad_val]
theorem frac_mod(k r:Nat):frac k (r % 10 ^ k)=frac k r:=by unfold frac;rw[pad_mod]
theorem frac_nil{k r:Nat}:frac k r=[]↔r % 10 ^ k=0:=by
 constructor
 ·intro h
  have:=frac_val k r
  rw[h]at this
  simpa[val]using this.symm
 ·intro h
  rw[←frac_mod,h]
  clear h
  induction k with
  |zero=>rfl
  |succ k ih=>rw[frac_step,if_pos rfl,Nat.zero_div];exact ih
theorem frac_more(k j r:Nat):frac (k+j) (r * 10 ^ j)=frac k r:=by
 induction j with
 |zero=>simp
 |succ j ih=>rw[←Nat.add_assoc,frac_step,Nat.pow_succ,←Nat.mul_assoc,if_pos (by omega),show r * 10 ^ j * 10 / 10=r * 10 ^ j by omega,ih]
theorem trimR_eq{l:List UInt8}(h:allD l=true):trimR l=frac l.length (val l):=by
 unfold frac;rw[pad_of_val h]
def fmt(neg:Bool)(w p:List UInt8):List UInt8:=
 (if neg then[45] else[])++(if w=[] then[48] else w)++[46]++(if p=[] then[48] else p)
def told(neg:Bool)(N sc:Nat):Option (List UInt8):=
 if 40<(digs (N / 10 ^ sc)).length∨20<(frac sc N).length then none
 else some (fmt (neg&&decide (N≠0)) (digs (N / 10 ^ sc)) (frac sc N))
def canon(z:Int):List UInt8:=fmt (decide (z<0)) (digs (z.natAbs / 10 ^ 20)) (frac 20 z.natAbs)
def top:Nat:=10 ^ 60
def small(z:Int):Prop:=z.natAbs<top
theorem told_more(neg:Bool)(N sc j:Nat):told neg (N * 10 ^ j) (sc+j)=told neg N sc:=by
 unfold told
 rw[frac_more,Nat.pow_add,Nat.mul_div_mul_right _ _ (Nat.pow_pos (by decide))]
 have:(N * 10 ^ j≠0)↔(N≠0):=by
  have:=Nat.pow_pos (n:=j) (show 0<10 by decide)
  constructor
  ·intro h h0;subst h0;simp at h
  ·intro h h0;rcases Nat.mul_eq_zero.1 h0 with h1|h1
   ·exact h h1
   ·omega
 simp only[this]
theorem told_le(neg:Bool)(N sc:Nat)(hsc:sc≤20):told neg N sc=told neg (N * 10 ^ (20-sc)) 20:=by
 have:=told_more neg N sc (20-sc)
 rw[show sc+(20-sc)=20 by omega]at this
 exact this.symm
def signed(neg:Bool)(N:Nat):Int:=if neg then -(N:Int) else N
theorem signed_natAbs(neg:Bool)(N:Nat):(signed neg N).natAbs=N:=by unfold signed;split<;>omega
theorem signed_neg(neg:Bool)(N:Nat):decide (signed neg N<0)=(neg&&decide (N≠0)):=by
 unfold signed
 cases neg
 ·simp
 ·simp only[if_true,Bool.true_and,decide_eq_decide];omega
theorem told20(neg:Bool)(N:Nat):told neg N 20=if N<top then some (canon (signed neg N)) else none:=by
 unfold told canon
 rw[signed_natAbs,signed_neg]
 have h1:=frac_length 20 N
 have h2:(digs (N / 10 ^ 20)).length≤40↔N<top:=by
  rw[digs_lt,Nat.div_lt_iff_lt_mul (by decide)];unfold top;rw[←Nat.pow_add]
 by_cases h:N<top
 ·rw[if_neg (by have:=h2.2 h;omega),if_pos h]
 ·rw[if_pos (by have:=mt h2.1 h;omega),if_neg h]
theorem signed_self(z:Int):signed (decide (z<0)) z.natAbs=z:=by
 unfold signed;by_cases h:z<0
 ·rw[decide_eq_true h];simp;omega
 ·rw[decide_eq_false h];simp;omega
def toldP(neg:Bool)(N sc:Nat):List UInt8×Int:=match told neg N sc with
 |none=>([],2)
 |some t=>(t,0)
end Go.Proofs.YtcaeipdgbaligaaGreatDoor.dec
