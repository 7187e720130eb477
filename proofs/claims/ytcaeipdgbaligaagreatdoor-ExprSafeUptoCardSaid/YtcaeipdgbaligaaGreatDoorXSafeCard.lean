/- Of what is safe evaluation never errs, in both languages: for every argument that may be read and that is not above the bound of the statement (1048576 values and letters), where the listed variables of the library hold what the row lists. -/
import Derived.Test.YtcaeipdgbaligaaGreatDoorXPlG
import Derived.Test.YtcaeipdgbaligaaGreatDoorFrame
import Derived.Deep.DeepHandedRow
set_option linter.unusedVariables false
set_option maxRecDepth 100000
namespace Go.Proofs.YtcaeipdgbaligaaGreatDoor.ex
open Go.ChangeShapes Go.WideShapes Go.ChangeAt Go.RowKit kit dec val tab
set_option maxRecDepth 100000
theorem exprsafe_any{H:Type}(enc:TypeId×Value→H)(W:World)(base:Nat)(v0:Value)(d0:DataW H)(p0:List MemPlace)(hv:Value.okWide Tryz.prog W .any base 31 v0)
 (h:DataW.Trod enc Tryz.prog W 0 (fun _=>true) true 31 v0 d0 p0)(hlt:∀x∈p0,x.block<W.heap.size)(hb:Rows.uptoBulk d0≤1048576)(hE:EnvD W):
 Calls Tryz.prog 3 #[v0] W fun e w'=>e=.returned (.bool true)∧Below W.heap.size W w':=exprsafe_all pgt enc W base v0 d0 p0 hv h hlt hb hE
theorem exprSafe_witness(os:Os){H:Type}(enc:TypeId×Value→H):
 ∃(w:World) (tape:Tape) (i:Input),w.os=os∧(w.forCall tape i).Shaped Tryz.prog∧i.vars=[]∧Input.okWide Tryz.prog (w.forCall tape i) .any w.heap.size 3 i ∧
  (Rows.OpenSpec.upto Rows.exprSafeSpec).preRow enc Tryz.prog Tryz.f3 Rows.exprSafeUptoRow.domain false Rows.exprSafeUptoRow.laid (w.forCall tape i).memory i.args∧({}:Assume).holds Tryz.prog (lone (Frame.enter Tryz.prog 3 i.args .normal) [] (w.forCall tape i)):=by
 have hx:∃places,DataW.whole enc Tryz.prog ((World.laidAll Tryz.prog os laidList).forCall (fun _ _=>0) ⟨#[],#[.agg #[.int .i64 0,.slice none 0 0,.slice none 0 0,.slice none 0 0,.slice none 0 0,.slice none 0 0,.slice none 0 0]],[]⟩).memory Tryz.f3.params.toList Rows.exprSafeSpec.vars false (#[.agg #[.int .i64 0,.slice none 0 0,.slice none 0 0,.slice none 0 0,.slice none 0 0,.slice none 0 0,.slice none 0 0]]:Array Value).toList 8=some ([.agg [.lit (.int .i64 0),.nil,.nil,.nil,.agg [.nil,.nil],.nil]],[],places):=⟨[],by kernel_rfl⟩
 obtain⟨places,hx⟩:=hx
 have hok:Input.okWideB Tryz.prog ((World.laidAll Tryz.prog os laidList).forCall (fun _ _=>0) ⟨#[],#[.agg #[.int .i64 0,.slice none 0 0,.slice none 0 0,.slice none 0 0,.slice none 0 0,.slice none 0 0,.slice none 0 0]],[]⟩) 3 ⟨#[],#[.agg #[.int .i64 0,.slice none 0 0,.slice none 0 0,.slice none 0 0,.slice none 0 0,.slice none 0 0,.slice none 0 0]],[]⟩=true:=by kernel_rfl
 refine⟨World.laidAll Tryz.prog os laidList,fun _ _=>0,⟨#[],#[.agg #[.int .i64 0,.slice none 0 0,.slice none 0 0,.slice none 0 0,.slice none 0 0,.slice none 0 0,.slice none 0 0]],[]⟩,World.laidAll_os _ _ _,World.shaped_of_ZipB (by kernel_rfl) (by kernel_rfl),(Input.okWide_of_okWideB (base:=0) hok).1,(Input.okWide_of_okWideB hok).2,?_,?_⟩
 ·exact OpenSpec.preRow_of_cond 8 hx (by kernel_rfl) (fun k hk=>by cases hk;kernel_rfl) (by kernel_rfl) (by
   rw[show Rows.exprSafeUptoRow.laid=laidList from rfl,MakeChecks.laidMetH_plain _ _ _ (by kernel_rfl)];exact laidMet_laidAll _ (by kernel_rfl) (by kernel_rfl))
 ·simp only[Assume.holds]
  exact⟨by simp,by simp,fun _=>Modest.zero,by simp,by simp⟩
theorem exprSafe_lifted(os:Os)(started:os.Started)(H:Type)(enc:TypeId×Value→H)(F:Stop.Interp):
 ReturnsInHanded {} Tryz.checked os 3 .any ((Rows.OpenSpec.upto Rows.exprSafeSpec).preRow enc Tryz.prog Tryz.f3 Rows.exprSafeUptoRow.domain false Rows.exprSafeUptoRow.laid) (((Rows.OpenSpec.upto Rows.exprSafeSpec).at F).post enc Tryz.prog Tryz.f3 false true false false):=by
 refine returnsInHanded_of_row (C:=Tryz.checked) (s:=Rows.OpenSpec.upto Rows.exprSafeSpec) frame.own started (by kernel_rfl) Tryz.func3 (exprSafe_witness os enc) ?_
 intro W base args ds gs before hval0 hW _ hcond hsz0 hL hsh _
 have hbulk:Rows.uptoBulkAll (ds++gs)≤1048576:=of_decide_eq_true (hcond _ rfl)
 have hval:∀(j:Nat) t v,Tryz.f3.params[j]? = some t→args[j]? = some v→Value.okWide Tryz.prog W .any base t v:=hval0
 have hW':=hW
 obtain⟨p,q,hA0,hV,rfl,hfz,hnd⟩:=hW
 have hA:DataW.TrodAll enc Tryz.prog W 0 (fun _=>true) true Tryz.f3.params.toList args.toList ds p:=hA0
 rw[Tryz.params3]at hA hval
 obtain⟨v0,vs0,d0,ds0,p0,q0,hargs,rfl,rfl,h0,r0⟩:=trodAll_cons hA
 obtain⟨rfl,rfl,rfl⟩:=trodAll_nil r0
 obtain rfl:args=#[v0]:=by cases args;simp_all
 obtain⟨rfl,rfl⟩:=trodVars_none hV
 clear hA0 hval0
 simp only[List.append_nil]at hW'
 have hlt:∀x∈p0,x.block<W.heap.size:=fun x hx=>hW'.lt x hx
 have hb0:Rows.uptoBulk d0≤1048576:=by
  have h1:([d0]++[]:List (DataW H))=[d0]:=rfl
  rw[h1]at hbulk
  simp only[Rows.uptoBulkAll]at hbulk
  omega
 refine(exprsafe_any enc W base v0 d0 p0 (hval 0 _ v0 rfl rfl) h0 hlt hb0 (env_of hL hsh)).mono fun e W' ⟨he,hg⟩=>?_
 subst he
 exact⟨_,rfl,frame.post_of_below (pa:=p0++[]) (pv:=[]) hW' (fun _ _ _=>(trodAll_cons_mk (shut_bool Tryz.underlying4 _) trodAll_mk0))
  (fun sp hsp=>trodAll_cons_mk (WideElems.Trod_stays frame.laid (by kernel_rfl) (of_decide_eq_true (by kernel_rfl)) h0 (fun x hx=>hg.same (hlt x hx)) (sp':=sp) (fun x hx=>hsp x hx)) trodAll_mk0)
  (fun _ _=>rfl) (by simp) hg (ok_one (by kernel_rfl) rfl (okWide_bool_mk Tryz.underlying4 _))⟩
theorem exprSafe_f1:(Rows.exprSafeUptoRow.inPlace==Tryz.prog.inPlace 3)=true:=by kernel_rfl
theorem exprSafe_f2:(Rows.exprSafeUptoRow.unfollowed==Tryz.prog.unfollowed 3)=true:=by kernel_rfl
theorem exprSafe_f3:(Rows.exprSafeUptoRow.recurses==Tryz.prog.recurses 3)=true:=by kernel_rfl
theorem exprSafe_f4:(Rows.exprSafeUptoRow.named==Tryz.prog.varsNamed 3)=true:=by kernel_rfl
theorem exprSafe_facts:joinedFacts Tryz.prog 3 Tryz.f3 (Rows.OpenSpec.upto Rows.exprSafeSpec).bare Rows.exprSafeUptoRow=true:=by
 unfold joinedFacts
 rw[exprSafe_f1,exprSafe_f2,exprSafe_f3,exprSafe_f4]
 kernel_rfl
theorem exprSafe_over:Rows.exprSafeUptoRow.holds Tryz.pinned (Rows.OpenSpec.upto Rows.exprSafeSpec):=
 OpenClaim.holds_of_cond 3 Tryz.f3 rfl rfl rfl rfl rfl rfl rfl ⟨rfl,rfl,rfl,rfl,rfl⟩ rfl rfl rfl rfl rfl (by as_aux_lemma=>kernel_rfl) Tryz.func3 exprSafe_facts
  (of_decide_eq_true (by kernel_rfl)) (by unfold Func.isWrapper;first|(rw[if_pos (by decide +kernel)];kernel_rfl)|(rw[if_neg (by decide +kernel)];exact⟨rfl,rfl⟩))
  (fun os started H enc _ F=>by rw[OpenClaim.pre_eq_preRow];exact exprSafe_lifted os started H enc F)
theorem ExprSafe_holds:Rows.ExprSafeUptoCardSaid:=
 Claim7.holds_tied_plain_at .later [] [.data,.data,.data,.data,.sentinel,.sentinel,.pinned] true (true, "40b39c69277e4e4ccddabf31f78117fe5137af82b223bab84a4f196d844a8185") true
  exprSafe_over (fun _ h=>by cases h) (by kernel_rfl) (fun _ h=>by cases h) exprSafeUpto_row_tie rfl ⟨rfl,rfl⟩ (by kernel_rfl) rfl
  (fun f fn hf hfn=>by
   obtain rfl:f=3:=Option.some.inj ((show Tryz.prog.funcNamed "diptych/diptychlaw8.ExprSafe" = some 3 by kernel_rfl).symm.trans hf) |>.symm
   obtain rfl:fn=Tryz.f3:=(Option.some.inj (Tryz.func3.symm.trans hfn)).symm
   exact⟨by kernel_rfl,fun j t ht=>by
    rw[Tryz.params3]at ht
    have hm:t∈([31]:List TypeId):=by simpa using Array.mem_of_getElem? ht
    have hall:(([31]:List TypeId).all fun u=>!Tryz.prog.wantsStandIn u)=true:=by kernel_rfl
    exact(show Tryz.prog.wantsStandIn t=false by simpa using List.all_eq_true.1 hall t hm)⟩)
  (by kernel_rfl)
end Go.Proofs.YtcaeipdgbaligaaGreatDoor.ex
