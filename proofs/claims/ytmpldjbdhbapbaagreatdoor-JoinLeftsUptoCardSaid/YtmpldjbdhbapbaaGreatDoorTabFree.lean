/- Rows of one's own stand in blocks of values and of slices alone: of any other block they are free. -/
import Derived.Test.YtmpldjbdhbapbaaGreatDoorTabNmA
set_option linter.unusedVariables false
namespace Go.Proofs.YtmpldjbdhbapbaaGreatDoor.tab
open Go.ChangeShapes Go.WideShapes Go.ChangeAt Go.RowKit kit dec val
theorem _root_.Go.Proofs.YtmpldjbdhbapbaaGreatDoor.val.LF.free{w:World}{N:Nat}{S:Nat→Prop}{v:Value}{l:List V}(h:LF w N S v l){p:Nat}{cs:Array Value}{t:TypeId}(hb:Blk w p cs t)(hne:34≠t):LF w N (fun b=>S b∧b≠p) v l:=by
 induction h with
 |mk ps P e hN own hS nb sub dis ok h ih=>
  exact .mk ps (fun j b=>P j b∧b≠p) e hN own (fun g hg=>⟨hS g hg,fun e=>own_ne own hb hne (e ▸ hg)⟩) (fun g hg j hP=>nb g hg j hP.1) (fun j b hP=>⟨sub j b hP.1,hP.2⟩) (fun i j b h1 h2=>dis i j b h1.1 h2.1) ok (fun j hj=>ih j hj)
theorem MR.free{w:World}{N:Nat}{S:Nat→Prop}{v:Value}{rs:List (List V)}(h:MR w N S v rs){p:Nat}{cs:Array Value}{t:TypeId}(hb:Blk w p cs t)(hne:34≠t)(hn2:32≠t):MR w N (fun b=>S b∧b≠p) v rs:=by
 obtain⟨vs,P,h1,h2,h3,h4,h5,h6,h7⟩:=h
 exact⟨vs,fun j b=>P j b∧b≠p,h1,h2,fun g hg=>⟨h3 g hg,fun e=>own_ne h2 hb hn2 (e ▸ hg)⟩,fun g hg j hP=>h4 g hg j hP.1,fun j b hP=>⟨h5 j b hP.1,hP.2⟩,fun i j b a c=>h6 i j b a.1 c.1,fun j hj hj'=>(h7 j hj hj').free hb hne⟩
end Go.Proofs.YtmpldjbdhbapbaaGreatDoor.tab
