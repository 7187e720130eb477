/- Values as data, and how they lie in memory. -/
import Derived.Test.YtmpldjbdhbapbaaGreatDoorKit
import Derived.ChangeArms
import Derived.RangeFuncOwn
set_option linter.unusedSimpArgs false
set_option linter.unusedVariables false
set_option maxRecDepth 100000
namespace Go.Proofs.YtmpldjbdhbapbaaGreatDoor.val
open Go.ChangeShapes Go.WideShapes Go.ChangeAt Go.RowKit kit
inductive V where
 |mk (kind:Int) (b:Bool) (n:Int) (t x:ByteArray) (l:List V)
def In64(n:Int):Prop:=-9223372036854775808≤n∧n≤9223372036854775807
structure Row6(w:World)(b o:Nat)(k:Int)(bo:Bool)(n:Int)(t x:ByteArray)(s:Value):Prop where
 lt:b<w.heap.size
 c0:w.cell? ⟨b,o,none⟩=some (.int .i64 k)
 c1:w.cell? ⟨b,o+1,none⟩=some (.bool bo)
 c2:w.cell? ⟨b,o+2,none⟩=some (.int .i64 n)
 c3:w.cell? ⟨b,o+3,none⟩=some (.string t)
 c4:w.cell? ⟨b,o+4,none⟩=some (.string x)
 c5:w.cell? ⟨b,o+5,none⟩=some s
theorem Row6.below{w w':World}{b o:Nat}{k:Int}{bo:Bool}{n:Int}{t x:ByteArray}{s:Value}(h:Row6 w b o k bo n t x s)(hb:Below w.heap.size w w'):Row6 w' b o k bo n t x s:=
 ⟨Nat.lt_of_lt_of_le h.lt hb.size,(hb.cell (p:=⟨b,o,none⟩) h.lt).trans h.c0,(hb.cell (p:=⟨b,o+1,none⟩) h.lt).trans h.c1,(hb.cell (p:=⟨b,o+2,none⟩) h.lt).trans h.c2,
  (hb.cell (p:=⟨b,o+3,none⟩) h.lt).trans h.c3,(hb.cell (p:=⟨b,o+4,none⟩) h.lt).trans h.c4,(hb.cell (p:=⟨b,o+5,none⟩) h.lt).trans h.c5⟩
def agg6(k:Int)(b:Bool)(n:Int)(t x:ByteArray)(s:Value):Value:=.agg #[.int .i64 k,.bool b,.int .i64 n,.string t,.string x,s]
mutual
inductive LA(w:World)(N:Nat):Value→List V→Prop
 |mk (ao:Option Addr) (cap:Nat) (l:List V) (hl:l.length≤N) (h:∀j (hj:j<l.length),EA w N ao (6 * j) l[j]):LA w N (.slice ao l.length cap) l
inductive EA(w:World)(N:Nat):Option Addr→Nat→V→Prop
 |mk (b off o:Nat) (k:Int) (bo:Bool) (n:Int) (t x:ByteArray) (l:List V) (s:Value) (hr:Row6 w b (off+o) k bo n t x s) (hk:In64 k) (hn:In64 n) (ht:t.size≤N) (hx:x.size≤N) (hs:LA w N s l):EA w N (some ⟨b,off,none⟩) o (.mk k bo n t x l)
end
structure VA(w:World)(N:Nat)(a:Value)(k:Int)(b:Bool)(n:Int)(t x:ByteArray)(l:List V):Prop where
 ex:∃s,a=agg6 k b n t x s∧LA w N s l
 hk:In64 k
 hn:In64 n
 ht:t.size≤N
 hx:x.size≤N
mutual
theorem LA.stay{w w':World}{N:Nat}(hb:Below w.heap.size w w'):∀{s:Value} {l:List V},LA w N s l→LA w' N s l
 |_,_,.mk ao cap l hl h=>.mk ao cap l hl (fun j hj=>EA.stay hb (h j hj))
theorem EA.stay{w w':World}{N:Nat}(hb:Below w.heap.size w w'):∀{ao:Option Addr} {o:Nat} {v:V},EA w N ao o v→EA w' N ao o v
 |_,_,_,.mk b off o k bo n t x l s hr hk hn ht hx hs=>.mk b off o k bo n t x l s (hr.below hb) hk hn ht hx (LA.stay hb hs)
end
theorem VA.below{w w':World}{N:Nat}{a:Value}{k:Int}{b:Bool}{n:Int}{t x:ByteArray}{l:List V}(h:VA w N a k b n t x l)(hb:Below w.heap.size w w'):VA w' N a k b n t x l:=by
 obtain⟨s,ha,hs⟩:=h.ex
 exact⟨⟨s,ha,hs.stay hb⟩,h.hk,h.hn,h.ht,h.hx⟩
theorem bulk_one{H:Type}(d:DataW H):1≤Rows.uptoBulk d:=by
 cases d with
 |lit l=>cases l<;>simp[Rows.uptoBulk]
 |_=>simp[Rows.uptoBulk]
theorem bulk_mem{H:Type}(ds:List (DataW H))(d:DataW H)(h:d∈ds):Rows.uptoBulk d≤Rows.uptoBulkAll ds:=by
 induction ds with
 |nil=>cases h
 |cons e r ih=>
  rw[Rows.uptoBulkAll]
  rcases List.mem_cons.1 h with rfl|h
  ·omega
  ·have:=ih h;omega
theorem bulk_len{H:Type}(ds:List (DataW H)):ds.length≤Rows.uptoBulkAll ds:=by
 induction ds with
 |nil=>simp
 |cons e r ih=>
  rw[Rows.uptoBulkAll,List.length_cons]
  have:=bulk_one e
  omega
def Bd{H:Type}(N:Nat)(d:DataW H):Prop:=N=maxLen∨Rows.uptoBulk d≤N
theorem Bd.agg{H:Type}{N:Nat}{ds:List (DataW H)}{d:DataW H}(h:Bd N (.agg ds))(hd:d∈ds):Bd N d:=by
 rcases h with h|h
 ·exact .inl h
 ·rw[Rows.uptoBulk]at h
  have:=bulk_mem ds d hd
  exact .inr (by omega)
theorem Bd.elem{H:Type}{N:Nat}{es rs:List (DataW H)}{d:DataW H}(h:Bd N (.slice es rs))(hd:d∈es):Bd N d:=by
 rcases h with h|h
 ·exact .inl h
 ·rw[Rows.uptoBulk]at h
  have:=bulk_mem es d hd
  exact .inr (by omega)
theorem Bd.len{H:Type}{N:Nat}{es rs:List (DataW H)}(h:Bd N (.slice es rs))(hm:es.length≤maxLen):es.length≤N:=by
 rcases h with h|h
 ·omega
 ·rw[Rows.uptoBulk]at h
  have:=bulk_len es
  omega
theorem Bd.text{H:Type}{N:Nat}{s:ByteArray}(h:Bd (H:=H) N (.lit (.string s.data.toList)))(hm:s.size≤maxLen):s.size≤N:=by
 rcases h with h|h
 ·omega
 ·rw[Rows.uptoBulk]at h
  have:s.data.toList.length=s.size:=by simp
  omega
theorem wf64{n:Int}(h:(Lit.int .i64 n).wf=true):In64 n:=by
 simp only[Lit.wf,IntKind.min,IntKind.max,IntKind.signed,IntKind.bits,Bool.and_eq_true,decide_eq_true_eq,if_true]at h
 exact⟨by have:=h.1;omega,by have:=h.2;omega⟩
section
variable{H:Type}{enc:TypeId×Value→H}{W:World}{N:Nat}
end
end Go.Proofs.YtmpldjbdhbapbaaGreatDoor.val
