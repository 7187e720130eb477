/- What Left's closure keeps and does. -/
import Derived.Test.YtmpldjbdhbapbaaGreatDoorJnLeft1
set_option linter.unusedSimpArgs false
set_option linter.unusedVariables false
namespace Go.Proofs.YtmpldjbdhbapbaaGreatDoor.tab
open Go.ChangeShapes Go.WideShapes Go.ChangeAt Go.RowKit kit dec val
open hyp (RowA TextsA CellsStay stay_of_below textsV textsV_length own_row)
def LeftJ(N t:Nat)(names:Value)(S:Nat→Prop)(yes:Bool)(L:List (List V))(w0 w1:World)(l:List (List V×Bool))(W:World):Prop:=
 ∃rv,Blk W t #[names,rv] 25∧MR W N (fun b=>S b∨(w1.heap.size≤b∧b<W.heap.size)) rv (L++if yes=true then l.map (·.1) else[])∧Spared (fun b=>b=t∨S b) w1 W∧Below w0.heap.size w0 w1
theorem blk_stayL{w w':World}{b:Nat}{cs:Array Value}{t:TypeId}(h:Blk w b cs t)(hb:Below w.heap.size w w'):Blk w' b cs t:=(hb.block _ h.lt).trans h
theorem known_left1(args:Array Value)(W:World):(callFunc 27 args).run Tryz.prog W=.ok (.enter 27 args) W:=by kernel_rfl
theorem left_do(N:Nat)(hN:N≤1048576)(m:Nat)(wq w:World)(hE:Env wq)(hq:Below wq.heap.size wq w)(lb ob ib pb eb t:Nat)(lang:Int)(b:Bool)(tp:TypeId)(pl:Value)(an:Option Addr)(n cn:Nat)(rv:Value)(S:Nat→Prop)(L:List (List V))(M:Nat)(hM:L.length+M≤1048576)
 (hl:Blk wq lb #[.int .i64 lang] 3)(ho:Blk wq ob #[.int .i64 1,.string ByteArray.empty,.int .i64 1,.bool b,.int .i64 0,.string ByteArray.empty,.string ByteArray.empty,.slice none 0 0,.bool false,.slice none 0 0,.slice none 0 0,.slice none 0 0,.slice none 0 0] 39)(hi:Blk wq ib #[.iface tp pl] 64)(hp:wq.cell? ⟨pb,0,none⟩=some (.slice an n cn))(he:Blk w eb #[.int .i64 0] 41)
 (ht:Blk w t #[.slice an n cn,rv] 25)(hR:MR w N S rv L)(hSlt:∀b,S b→b<w.heap.size)(hSt:¬S t)(hSe:¬S eb)(het:eb≠t)(hTq:∀b,b=t∨S b→wq.heap.size≤b):
 DoW N m M w 27 #[.pointer (some ⟨lb,0,none⟩),.pointer (some ⟨ob,0,none⟩),.pointer (some ⟨ib,0,none⟩),.pointer (some ⟨pb,0,none⟩),.pointer (some ⟨eb,0,none⟩),.pointer (some ⟨t,0,none⟩)] (fun k=>k=t∨S k) (fun w1 l W=>LeftJ N t (.slice an n cn) S b L w w1 l W) (fun _ _ _=>False) where
 known:=known_left1
 start w1 hb:=by
  refine⟨rv,(hb.block _ ht.lt).trans ht,?_,⟨rfl,rfl,rfl,Nat.le_refl _,fun _ _ _=>rfl⟩,hb⟩
  have e:(L++if b=true then([]:List (List V×Bool)).map (·.1) else[])=L:=by cases b<;>simp
  rw[e]
  exact(hR.stay fun b hS hlt=>hb.block b hlt).mono fun b hS=>.inl hS
 stay w1 l W W' h hb:=by
  obtain⟨rv2,h1,h2,h3,h4⟩:=h
  refine⟨rv2,(hb.block _ h1.lt).trans h1,(h2.stay fun b hS hlt=>hb.block b hlt).mono fun b hS=>?_,h3.trans (Spared.ofBelow hb),h4⟩
  rcases hS with hS|hS
  ·exact .inl hS
  ·exact .inr ⟨hS.1,Nat.lt_of_lt_of_le hS.2 hb.size⟩
 spare w1 l W h:=by
  obtain⟨rv2,h1,h2,h3,h4⟩:=h
  exact h3
 call w1 l W a c x sh h hl9 hla:=by
  obtain⟨rv2,h1,h2,h3,h4⟩:=h
  have h5:=h3.size
  have h6:=ht.lt
  have hlr:(L++if b=true then l.map (·.1) else[]).length+1≤1048576:=by
   rw[List.length_append]
   cases b
   ·simp;omega
   ·simp;omega
  have h7:=h4.size
  have hBq:Below wq.heap.size wq W:=by
   have hb:=hq.trans (h4.mono hq.size)
   exact⟨h3.os.trans hb.os,h3.tape.trans hb.tape,h3.output.trans hb.output,Nat.le_trans hb.size h5,fun k hk=>(h3.block k (by have:=hb.size;omega) (fun h=>by have:=hTq k h;omega)).trans (hb.block k hk)⟩
  have heW:Blk W eb #[.int .i64 0] 41:=(h3.block eb (by have:=he.lt;omega) (fun h=>h.elim het hSe)).trans ((h4.block eb he.lt).trans he)
  refine(left1_any N hN W (hE.below hBq) lb ob ib pb eb t lang b tp pl an n cn rv2 _ (fun k=>S k∨(w1.heap.size≤k∧k<W.heap.size)) _ x sh (blk_stayL hl hBq) (blk_stayL ho hBq) (blk_stayL hi hBq) (sB hBq hp) heW h1 h2 (fun k hk=>?_) (fun hk=>?_) (fun hk=>?_) het hla hlr).mono ?_
  ·rcases hk with hk|hk
   ·have:=hSlt k hk
    omega
   ·exact hk.2
  ·rcases hk with hk|hk
   ·exact hSt hk
   ·have:=hk.1
    omega
  ·rcases hk with hk|hk
   ·exact hSe hk
   ·have:=hk.1
    have:=he.lt
    omega
  ·rintro e W' ⟨rfl,rv3,g1,g2,g3⟩
   refine⟨true,rfl,fun _=>⟨rv3,g1,?_,?_,h4⟩,fun h=>by cases h⟩
   ·have e:(L++if b=true then(l++[(x,sh)]).map (·.1) else[])=(L++if b=true then l.map (·.1) else[])++(if b=true then[x] else[]):=by cases b<;>simp
    rw[e]
    have h8:=g3.size
    refine g2.mono fun k hk=>?_
    rcases hk with(hk|hk)|hk
    ·exact .inl hk
    ·exact .inr ⟨hk.1,by have:=hk.2;omega⟩
    ·exact .inr ⟨by have:=hk.1;omega,hk.2⟩
   ·refine⟨g3.os.trans h3.os,g3.tape.trans h3.tape,g3.output.trans h3.output,Nat.le_trans h3.size g3.size,fun k hk hn=>(g3.block k (by omega) (fun hc=>?_)).trans (h3.block k hk hn)⟩
    rcases hc with hc|hc|hc
    ·exact hn (.inl hc)
    ·exact hn (.inr hc)
    ·have:=hc.1
     omega
end Go.Proofs.YtmpldjbdhbapbaaGreatDoor.tab
