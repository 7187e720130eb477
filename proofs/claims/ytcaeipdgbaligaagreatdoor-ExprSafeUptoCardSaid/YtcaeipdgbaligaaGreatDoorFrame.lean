/- Texts DecFrameE, Frame, one behind the other. -/
import Derived.Test.YtcaeipdgbaligaaGreatDoorDecShelf
import Derived.Test.YtcaeipdgbaligaaGreatDoorCards
import Derived.Test.YtcaeipdgbaligaaGreatDoorTie
import Derived.SizedLaws
import Derived.JoinedCond
import Derived.Lay
import Derived.LaidSub
import Derived.LaidMore
import Derived.MakeChecks
import Derived.Stop.Joined
import Derived.Stop.LaidErr
import Derived.Lib.LaidTab
import Derived.Shelf.Vars
import Derived.HandedShaped
import Derived.SevenTiedAt
import Derived.SliceStrings
import Derived.Deep.CondSized
set_option linter.unusedVariables false
namespace Go.Proofs.YtcaeipdgbaligaaGreatDoor.dec
open Go.ChangeShapes Go.WideShapes Go.ChangeAt Go.RowKit kit
def laidList:List (String×DataW Unit):=Rows.exprSafeRow.laid
theorem pick1{W:World}(h:laidMetH Tryz.prog laidList W)(n:String)(d:DataW Unit)(hf:laidList.filter (fun x=>x.1==n)=[(n,d)])(hp:([(n,d)].all fun x=>x.2.handleName?.isNone)=true):laidMet Tryz.prog [(n,d)] W:=by
 have h1:=h.filter (fun x=>x.1==n)
 rw[hf,MakeChecks.laidMetH_plain _ _ _ hp]at h1
 exact h1
theorem star : "*" ++ "errors.errorString" = "*errors.errorString" := by decide
theorem rowErr(u:TypeId)(h:Tryz.prog.typeName? 3 u = some "*errors.errorString") : u=276:=
 typeName_ptr_named (nm := "errors.errorString") (by rw[star];kernel_rfl) (by kernel_rfl) (by decide) u (by rw[star];exact h)
theorem env_of{W:World}(h:laidMetH Tryz.prog laidList W)(hs:W.ShapedOpen Tryz.prog):EnvD W:=by
 have hsz:8≤W.heap.size∧0+1≤W.heap.size:=by
  have h7:(((begin Tryz.prog (fun _ _=>0) default).world.heap[7]?).bind Obj.row?).isSome=true:=by kernel_rfl
  obtain⟨⟨zero,t⟩,hz⟩:=Option.isSome_iff_exists.1 h7
  obtain⟨cs,hcs,_⟩:=hs.1 7 zero t (of_decide_eq_true (by kernel_rfl)) hz
  have:=(Array.getElem?_eq_some_iff.1 hcs).1
  omega
 refine⟨⟨?_,hsz.2⟩,hsz.1,?_,?_,?_⟩
 ·exact cell_of_shapedOpen_int (P:=Tryz.prog) (g:=0) (t:=3) (zero:=#[.int .i64 0]) hs (of_decide_eq_true (by kernel_rfl)) (by kernel_rfl) rfl (by kernel_rfl) (by kernel_rfl) Tryz.underlying3
 ·exact Lib.tabIs_of_head (P:=Tryz.prog) (g:=1) (t:=243) (e:=177) (n:=20) (rest:=[]) (by kernel_rfl) (by kernel_rfl) Tryz.underlying243 Tryz.underlying177 (by kernel_rfl) (by kernel_rfl)
   (pick1 h "internal/strconv.uint64pow10" (Lib.tabData .u64 Lib.pow10Tab) (by kernel_rfl) (by kernel_rfl))
 ·obtain⟨a,s,hv,_⟩:=laid_sentinel (P:=Tryz.prog) (r:=[]) (pick1 h "strconv.ErrSyntax" Rows.laid_strconv_ErrSyntax (by kernel_rfl) (by kernel_rfl)) (g:=6) (ti:=207) (tp:=276) (te:=278) (ts:=9) (by kernel_rfl) (by kernel_rfl) Tryz.underlying207 rowErr Tryz.underlying276 Tryz.underlying278 rfl rfl Tryz.underlying9 (by kernel_rfl) (by kernel_rfl)
  exact⟨_,_,hv⟩
 ·obtain⟨a,s,hv,_⟩:=laid_sentinel (P:=Tryz.prog) (r:=[]) (pick1 h "strconv.ErrRange" Rows.laid_strconv_ErrRange (by kernel_rfl) (by kernel_rfl)) (g:=7) (ti:=207) (tp:=276) (te:=278) (ts:=9) (by kernel_rfl) (by kernel_rfl) Tryz.underlying207 rowErr Tryz.underlying276 Tryz.underlying278 rfl rfl Tryz.underlying9 (by kernel_rfl) (by kernel_rfl)
  exact⟨_,_,hv⟩
end Go.Proofs.YtcaeipdgbaligaaGreatDoor.dec
set_option linter.unusedVariables false
namespace Go.Proofs.YtcaeipdgbaligaaGreatDoor
open Go.ChangeShapes Go.WideShapes Go.ChangeAt Go.RowKit
namespace frame
section
variable{H:Type}{enc:TypeId×Value→H}{P:Program}
theorem post_of_below{f:Func}{s:ChangeSpec}{apart fresh handsOn again:Bool}{W W':World}{args:Array Value}{v:Value}{ds gs:List (DataW H)}{before pa pv:List MemPlace}
 (hW:DataW.Whole enc P f.params.toList s.vars apart W args.toList ds gs before)
 (hres:∀(b:Nat) (sp:Nat→Bool) (hd:Bool),DataW.TrodAll enc P W' b sp hd f.resultTypes.toList (v.resultList f.resultTypes.size) (s.fn H (ds++gs)).results [])
 (hargs:∀sp:Nat→Bool,(∀p∈before,sp p.block=true)→DataW.TrodAll enc P W' 0 sp true f.params.toList args.toList (s.fn H (ds++gs)).args pa)
 (hvars:∀sp:Nat→Bool,(∀p∈before,sp p.block=true)→DataW.TrodVars enc P W' sp s.vars (s.fn H (ds++gs)).vars pv)
 (hps:before=pa++pv)(hb:Below W.heap.size W W')
 (hok:∀(j:Nat) (t:TypeId) (r:Value),f.resultTypes[j]? = some t→(v.resultList f.resultTypes.size)[j]? = some r→Value.okWide P W' .any 0 t r):
 s.post enc P f apart fresh handsOn again W args v W':=by
 have hlt:∀p∈before,p.block<W.heap.size:=fun p hp=>hW.lt p hp
 have hold:∀p∈before,(fun b=>decide (b<W.heap.size)) p.block=true:=fun p hp=>by simpa using hlt p hp
 refine⟨ds,gs,before,[],pa,pv,hW,hres _ _ _,hargs _ hold,hvars _ hold,World.keptBut_mono (fun p hp=>⟨hp,?_⟩) (hb.frame (·∈before)),fun _=>?_⟩
 ·rw[hps,List.mem_append]at hp
  exact Or.inr hp
 ·obtain⟨_,_,_,_,_,hz,hn⟩:=hW
  refine⟨hok,_,_,([]++pa)++pv,⟨[]++pa,pv,trodAll_append (hargs _ (fun _ _=>rfl)) (hres _ _ _),hvars _ (fun _ _=>rfl),rfl,?_,?_⟩,?_⟩
  ·intro b off hp
   have hin:MemPlace.cell b off∈before:=by rw[hps];simpa using hp
   rw[hb.frozen (hlt _ hin)]
   exact hz b off hin
  ·intro ha
   have:=hn ha
   rw[hps]at this
   simpa using this
  ·intro p hp _
   rw[hps]
   simpa using hp
end
theorem own:ownKnob Tryz.prog.godebug=none:=by kernel_rfl
theorem laid:laidOutB Tryz.prog=true:=by kernel_rfl
end frame
end Go.Proofs.YtcaeipdgbaligaaGreatDoor
