/- Texts XChk, XVal, XSmall, XSmall2, XLight, one behind the other. -/
import Derived.Test.YtcaeipdgbaligaaGreatDoorXTakes
set_option linter.unusedSimpArgs false
set_option linter.unusedVariables false
namespace Go.Proofs.YtcaeipdgbaligaaGreatDoor.ex
open Go.RowKit kit val
def n_size:ByteArray:=⟨#[115,105,122,101]⟩
def n_head:ByteArray:=⟨#[104,101,97,100]⟩
def n_last:ByteArray:=⟨#[108,97,115,116]⟩
def n_abs:ByteArray:=⟨#[97,98,115]⟩
def n_text:ByteArray:=⟨#[116,101,120,116]⟩
def n_labels:ByteArray:=⟨#[108,97,98,101,108,115]⟩
def n_type:ByteArray:=⟨#[116,121,112,101]⟩
def n_id:ByteArray:=⟨#[105,100]⟩
def n_coalesce:ByteArray:=⟨#[99,111,97,108,101,115,99,101]⟩
def n_isiri:ByteArray:=⟨#[105,115,105,114,105]⟩
def n_isblank:ByteArray:=⟨#[105,115,98,108,97,110,107]⟩
def n_isliteral:ByteArray:=⟨#[105,115,108,105,116,101,114,97,108]⟩
def n_length:ByteArray:=⟨#[108,101,110,103,116,104]⟩
def n_if:ByteArray:=⟨#[105,102]⟩
def n_count:ByteArray:=⟨#[99,111,117,110,116]⟩
def n_sum:ByteArray:=⟨#[115,117,109]⟩
def n_min:ByteArray:=⟨#[109,105,110]⟩
def n_max:ByteArray:=⟨#[109,97,120]⟩
def n_avg:ByteArray:=⟨#[97,118,103]⟩
def n_collect:ByteArray:=⟨#[99,111,108,108,101,99,116]⟩
def n_sample:ByteArray:=⟨#[115,97,109,112,108,101]⟩
def n_concat:ByteArray:=⟨#[99,111,110,99,97,116]⟩
def argsP(s:Bool)(t:ByteArray)(n:Nat):Bool:=
 if s then
  if t=n_abs∨t=n_text∨t=n_isiri∨t=n_isblank∨t=n_isliteral∨t=n_length then decide (n=1)
  else if t=n_if then decide (n=3) else decide (t=n_coalesce)&&decide (1≤n)
 else
  if t=n_size∨t=n_head∨t=n_last∨t=n_abs∨t=n_text∨t=n_labels∨t=n_type∨t=n_id then decide (n=1)
  else decide (t=n_coalesce)&&decide (1≤n)
def aggP(s:Bool)(t:ByteArray)(n:Nat):Bool:=
 if t=n_count then decide (n≤1)
 else if t=n_sum∨t=n_min∨t=n_max∨t=n_avg then decide (n=1)
 else if t=n_collect then !s&&decide (n=1)
 else if t=n_sample∨t=n_concat then s&&decide (n=1)
 else false
def isNul:V→Bool
 |.mk k b n t x l=>decide (k=0)&&!b&&decide (n=0)&&emp t&&emp x&&decide (l.length=0)
def opP:P→Int
 |.mk op _ _ _ _ _ _ _ _ _ _ _ _ _ _=>op
def ownX(s:Bool)(op:Int)(t:ByteArray)(v:V)(f:Bool)(n:Nat)(p:List P)(mt gp:Nat):Bool:=
 decide (mt=0)&&decide (gp=0)&&(decide (op=1)||isNul v)&&(decide (op=29)||decide (p.length=0))&&(!f||decide (op=16∨op=28∨op=29))&&(emp t||decide (op=2∨op=3∨op=26∨op=28)) &&
 (if op=1 then decide (n=0)&&mayV v
  else if op=2 then decide (n=0)&&nameB t
  else if op=3 then !s&&decide (n=1)&&decide (1≤t.size)&&decide (t.size≤1048576)
  else if op=4 then !s
  else if op=5∨op=22∨op=16 then decide (n=1)
  else if op=6∨op=7∨op=9∨op=10∨op=11∨op=12∨op=13∨op=14∨op=17∨op=18∨op=19∨op=20∨op=23∨op=24∨op=25 then decide (n=2)
  else if op=8∨op=21∨op=15 then !s&&decide (n=2)
  else if op=26 then argsP s t n
  else if op=27 then decide (3≤n)&&decide (n % 2=1)
  else if op=28 then aggP s t n
  else if op=29 then decide (n=0)&&(match p with|[q]=>decide (opP q≠0)|_=>false)
  else false)
mutual
def cntX:X→Nat
 |.mk _ _ _ _ a _ _ _=>1+cntXs a
def cntXs:List X→Nat
 |[]=>0
 |x::l=>cntX x+cntXs l
end
mutual
def okX(s:Bool):Nat→Bool→X→Bool
 |d,g,.mk op t v f a p mt gp=>decide (d≤60)&&ownX s op t v f a.length p mt gp&&!(g&&decide (op=28))&&okXs s (d+1) (g||decide (op=28)) a
def okXs(s:Bool):Nat→Bool→List X→Bool
 |_,_,[]=>true
 |d,g,x::l=>okX s d g x&&okXs s d g l
end
def mayX(s:Bool)(x:X):Bool:=okX s 1 false x&&decide (cntX x≤4096)
theorem cntX_pos(x:X):1≤cntX x:=by cases x;rw[cntX];omega
theorem cntXs_len:∀l:List X,l.length≤cntXs l
 |[]=>Nat.zero_le _
 |x::l=>by
  rw[cntXs,List.length_cons]
  have:=cntXs_len l
  have:=cntX_pos x
  omega
theorem cntXs_take(l:List X)(k:Nat)(hk:k<l.length):cntXs (l.take (k+1))=cntXs (l.take k)+cntX l[k]:=by
 induction l generalizing k with
 |nil=>simp at hk
 | cons x l ih =>
  cases k with
  |zero=>simp[cntXs]
  |succ k=>
   rw[List.take_succ_cons,List.take_succ_cons,cntXs,cntXs,ih k (by simpa using hk)]
   simp
   omega
theorem cntXs_take_le:∀(l:List X) (k:Nat),cntXs (l.take k)≤cntXs l
 |[],k=>by simp
 |x::l,0=>by simp[cntXs]
 |x::l,k+1=>by
  rw[List.take_succ_cons,cntXs,cntXs]
  have:=cntXs_take_le l k
  omega
theorem okXs_all(s:Bool)(d:Nat)(g:Bool):∀l:List X,okXs s d g l=l.all (okX s d g)
 |[]=>by rw[okXs];rfl
 |x::l=>by rw[okXs,okXs_all s d g l,List.all_cons]
theorem okX_deep{s:Bool}{d:Nat}{g:Bool}{x:X}(h:okX s d g x=true):d≤60:=by
 obtain⟨op,t,v,f,a,p,mt,gp⟩:=x
 rw[okX]at h
 simp only[Bool.and_eq_true,decide_eq_true_eq]at h
 exact h.1.1.1
def bareX:X→Bool
 |.mk op _ v _ _ _ _ _=>decide (op≠2)&&(decide (op≠1)||decide (kindV v=1∨kindV v=0))
mutual
def calmX:X→Bool
 |.mk op _ _ _ a _ _ _=>if op=1∨op=2 then true else if op=16∨(9≤op∧op≤14) then calmXs a else if op=6∨op=7∨op=5∨op=8 then truthXs a else false
def calmXs:List X→Bool
 |[]=>true
 |x::l=>calmX x&&calmXs l
def truthXs:List X→Bool
 |[]=>true
 |x::l=>bareX x&&calmX x&&truthXs l
end
mutual
def plainX:X→Bool×Bool
 |.mk op _ v _ a _ _ _=>if op=1 then(true,decide (kindV v=1∨kindV v=0)) else if op=2 then(true,false) else if op=16∨(9≤op∧op≤14) then((plainXs a).1,true) else if op=6∨op=7∨op=8∨op=5 then((plainXs a).1&&(plainXs a).2,true) else(false,false)
def plainXs:List X→Bool×Bool
 |[]=>(true,true)
 |x::l=>((plainX x).1&&(plainXs l).1,(plainX x).2&&(plainXs l).2)
end
mutual
theorem plain_calm:∀x:X,(plainX x).1=calmX x∧((plainX x).1&&(plainX x).2)=(bareX x&&calmX x)
 | .mk op t v f a p mt gp => by
  obtain⟨h1,h2⟩:=plains_calm a
  rw[plainX,calmX,bareX]
  by_cases o1:op=1
  ·subst o1;simp
  ·by_cases o2:op=2
   ·subst o2;simp
   ·by_cases o3:op=16∨(9≤op∧op≤14)
    ·simp[o1,o2,o3,h1]
    ·by_cases o4:op=6∨op=7∨op=8∨op=5
     ·have o5:op=6∨op=7∨op=5∨op=8:=by omega
      simp only[o1,o2,o3,o4,o5,if_true,if_false,or_self,h2,Bool.and_true,ne_eq,not_false_eq_true,decide_true,decide_false,Bool.true_or,Bool.true_and,and_self]
     ·have o5:¬(op=6∨op=7∨op=5∨op=8):=by omega
      simp only[o1,o2,o3,o4,o5,if_false,or_self]
      simp
theorem plains_calm:∀l:List X,(plainXs l).1=calmXs l∧((plainXs l).1&&(plainXs l).2)=truthXs l
 |[]=>by simp[plainXs,calmXs,truthXs]
 |x::l=>by
  obtain⟨h1,h2⟩:=plain_calm x
  obtain⟨h3,h4⟩:=plains_calm l
  rw[plainXs,calmXs,truthXs,←h2,←h4]
  refine⟨by rw[h1,h3],?_⟩
  cases(plainX x).1<;>cases(plainX x).2<;>cases(plainXs l).1<;>cases(plainXs l).2<;>rfl
end
def safeX(s:Bool)(x:X):Bool:=mayX s x&&(if s then(match x with|.mk op _ _ _ _ _ _ _=>decide (op=1)) else calmX x)
mutual
def aggX:X→Bool
 |.mk op _ _ _ a _ _ _=>decide (op=28)||aggXs a
def aggXs:List X→Bool
 |[]=>false
 |x::l=>aggX x||aggXs l
end
mutual
theorem calm_agg(s:Bool):∀(d:Nat) (g:Bool) (x:X),okX s d g x=true→calmX x=true→aggX x=false
 | d, g, .mk op t v f a p mt gp, h0, h => by
  rw[calmX]at h
  rw[okX,Bool.and_eq_true]at h0
  obtain⟨h1,h2⟩:=h0
  rw[aggX]
  by_cases o1:op=1∨op=2
  ·have ha:a.length=0:=by
    simp only[Bool.and_eq_true]at h1
    have:=h1.1.2
    unfold ownX at this
    simp only[Bool.and_eq_true]at this
    have:=this.2
    rcases o1 with rfl|rfl
    ·simp at this
     simp[this.1]
    ·simp at this
     simp[this.1]
   rw[List.length_eq_zero_iff]at ha
   subst ha
   rw[aggXs,Bool.or_false]
   exact decide_eq_false (by omega)
  ·by_cases o3:op=16∨(9≤op∧op≤14)
   ·rw[if_neg o1,if_pos o3]at h
    rw[calms_agg s _ _ a h2 h,Bool.or_false]
    exact decide_eq_false (by omega)
   ·by_cases o5:op=6∨op=7∨op=5∨op=8
    ·rw[if_neg o1,if_neg o3,if_pos o5]at h
     rw[truths_agg s _ _ a h2 h,Bool.or_false]
     exact decide_eq_false (by omega)
    ·rw[if_neg o1,if_neg o3,if_neg o5]at h
     cases h
theorem calms_agg(s:Bool):∀(d:Nat) (g:Bool) (l:List X),okXs s d g l=true→calmXs l=true→aggXs l=false
 |_,_,[],_,_=>by rw[aggXs]
 |d,g,x::l,h0,h=>by
  rw[okXs,Bool.and_eq_true]at h0
  rw[calmXs,Bool.and_eq_true]at h
  rw[aggXs,calm_agg s d g x h0.1 h.1,calms_agg s d g l h0.2 h.2];rfl
theorem truths_agg(s:Bool):∀(d:Nat) (g:Bool) (l:List X),okXs s d g l=true→truthXs l=true→aggXs l=false
 |_,_,[],_,_=>by rw[aggXs]
 |d,g,x::l,h0,h=>by
  rw[okXs,Bool.and_eq_true]at h0
  rw[truthXs,Bool.and_eq_true,Bool.and_eq_true]at h
  rw[aggXs,calm_agg s d g x h0.1 h.1.2,truths_agg s d g l h0.2 h.2];rfl
end
end Go.Proofs.YtcaeipdgbaligaaGreatDoor.ex
set_option linter.unusedSimpArgs false
set_option linter.unusedVariables false
namespace Go.Proofs.YtcaeipdgbaligaaGreatDoor.ex
open Go.ChangeShapes Go.WideShapes Go.ChangeAt Go.RowKit kit val tab
open hyp (RowA TextsA textsV textsV_length)
structure Row13(w:World)(b o:Nat)(c:Array Value):Prop where
 lt:b<w.heap.size
 cell:∀i,i<13→w.cell? ⟨b,o+i,none⟩=c[i]?
theorem Row13.below{w w':World}{b o:Nat}{c:Array Value}(h:Row13 w b o c)(hb:Below w.heap.size w w'):Row13 w' b o c:=
 ⟨Nat.lt_of_lt_of_le h.lt hb.size,fun i hi=>(hb.cell (p:=⟨b,o+i,none⟩) h.lt).trans (h.cell i hi)⟩
theorem Row13.all{w:World}{b o:Nat}{op:Int}{t:ByteArray}{k:Int}{bo:Bool}{n:Int}{t2 u2:ByteArray}{s:Value}{f:Bool}{sa sp sm sg:Value}(h:Row13 w b o (c13 op t k bo n t2 u2 s f sa sp sm sg)):
 w.cell? ⟨b,o,none⟩=some (.int .i64 op)∧w.cell? ⟨b,o+1,none⟩=some (.string t)∧w.cell? ⟨b,o+2,none⟩=some (.int .i64 k)∧w.cell? ⟨b,o+3,none⟩=some (.bool bo)∧w.cell? ⟨b,o+4,none⟩=some (.int .i64 n)∧w.cell? ⟨b,o+5,none⟩=some (.string t2)∧w.cell? ⟨b,o+6,none⟩=some (.string u2) ∧
 w.cell? ⟨b,o+7,none⟩=some s∧w.cell? ⟨b,o+8,none⟩=some (.bool f)∧w.cell? ⟨b,o+9,none⟩=some sa∧w.cell? ⟨b,o+10,none⟩=some sp∧w.cell? ⟨b,o+11,none⟩=some sm∧w.cell? ⟨b,o+12,none⟩=some sg:=
 ⟨h.cell 0 (by decide),h.cell 1 (by decide),h.cell 2 (by decide),h.cell 3 (by decide),h.cell 4 (by decide),h.cell 5 (by decide),h.cell 6 (by decide),h.cell 7 (by decide),h.cell 8 (by decide),h.cell 9 (by decide),h.cell 10 (by decide),h.cell 11 (by decide),h.cell 12 (by decide)⟩
inductive XV(w:World)(N:Nat):Value→X→Prop
 |mk (op:Int) (t:ByteArray) (k:Int) (b:Bool) (n:Int) (t2 u2:ByteArray) (s:Value) (l:List V) (f:Bool) (aa:Option Addr) (ca:Nat) (args:List X) (ap:Option Addr) (cp:Nat) (plan:List P) (am:Option Addr) (mt cm:Nat) (ag:Option Addr) (gp cg:Nat)
  (h0:In64 op) (h1:t.size≤N) (hk:In64 k) (hn:In64 n) (h2:t2.size≤N) (h3:u2.size≤N) (hl:LA w N s l) (ha:XS w N (.slice aa args.length ca) args) (hp:PS w N (.slice ap plan.length cp) plan) (hm:mt≤N) (hg:gp≤N):
  XV w N (.agg (c13 op t k b n t2 u2 s f (.slice aa args.length ca) (.slice ap plan.length cp) (.slice am mt cm) (.slice ag gp cg))) (.mk op t (.mk k b n t2 u2 l) f args plan mt gp)
theorem XV.stay{w w':World}{N:Nat}{v:Value}{x:X}(h:XV w N v x)(hb:Below w.heap.size w w'):XV w' N v x:=by
 cases h with
 |mk op t k b n t2 u2 s l f aa ca args ap cp plan am mt cm ag gp cg h0 h1 hk hn h2 h3 hl ha hp hm hg=>
  exact .mk op t k b n t2 u2 s l f aa ca args ap cp plan am mt cm ag gp cg h0 h1 hk hn h2 h3 (hl.stay hb) (XS.stay hb ha) (PS.stay hb hp) hm hg
theorem Cl.at{w:World}{b off o:Nat}{v:Value}(h:Cl w (some ⟨b,off,none⟩) o v):w.cell? ⟨b,off+o,none⟩=some v:=by
 obtain⟨b1,o1,e,_,hc⟩:=h
 cases e
 exact hc
theorem xs_form{w:World}{N:Nat}{v:Value}{l:List X}(h:XS w N v l):∃ao cap,v=.slice ao l.length cap∧l.length≤N:=by
 cases h with
 |mk ao cap l hl h=>exact⟨ao,cap,rfl,hl⟩
theorem ps_form{w:World}{N:Nat}{v:Value}{l:List P}(h:PS w N v l):∃ao cap,v=.slice ao l.length cap∧l.length≤N:=by
 cases h with
 |mk ao cap l hl h=>exact⟨ao,cap,rfl,hl⟩
theorem xc_at{w:World}{N:Nat}{ao:Option Addr}{o:Nat}{x:X}(h:XC w N ao o x):∃b off cs,ao=some ⟨b,off,none⟩∧Row13 w b (off+o) cs∧XV w N (.agg cs) x:=by
 cases h with
 | mk ao o op text v flag args plan mt gp sa sp am ag cm cg c0 h0 c1 h1 hv c8 c9 ha c10 hp c11 l11 c12 l12 =>
  obtain⟨b,off,rfl,hlt,g0⟩:=c0
  obtain⟨aa,ca,rfl,hal⟩:=xs_form ha
  obtain⟨ap,cp,rfl,hpl⟩:=ps_form hp
  have g1:=c1.at
  have g8:=c8.at
  have g9:=c9.at
  have g10:=c10.at
  have g11:=c11.at
  have g12:=c12.at
  cases hv with
  |mk _ _ _ k bo n t2 u2 l s hr hk hn ht hx hs=>
   have hr0:=hr.c0
   have hr1:=hr.c1
   have hr2:=hr.c2
   have hr3:=hr.c3
   have hr4:=hr.c4
   have hr5:=hr.c5
   refine⟨b,off,_,rfl,⟨hlt,fun i hi=>?_⟩,.mk op text k bo n t2 u2 s l flag aa ca args ap cp plan am mt cm ag gp cg h0 h1 hk hn ht hx hs ha hp l11 l12⟩
   rcases(by omega:i=0∨i=1∨i=2∨i=3∨i=4∨i=5∨i=6∨i=7∨i=8∨i=9∨i=10∨i=11∨i=12) with rfl|rfl|rfl|rfl|rfl|rfl|rfl|rfl|rfl|rfl|rfl|rfl|rfl
   ·exact g0
   ·exact g1
   ·exact hr0
   ·exact hr1
   ·exact hr2
   ·exact hr3
   ·exact hr4
   ·exact hr5
   ·exact g8
   ·exact g9
   ·exact g10
   ·exact g11
   ·exact g12
theorem xs_at{w:World}{N:Nat}{ao:Option Addr}{cap:Nat}{l:List X}(h:XS w N (.slice ao l.length cap) l)(j:Nat)(hj:j<l.length):∃b off cs,ao=some ⟨b,off,none⟩∧Row13 w b (off+j * 13) cs∧XV w N (.agg cs) (l[j]'hj):=by
 generalize hv:Value.slice ao l.length cap=v at h
 cases h with
 |mk ao2 cap2 l hl h=>
  injection hv with e1 e2 e3
  subst e1
  obtain⟨b,off,cs,e,hr,hx⟩:=xc_at (h j hj)
  rw[Nat.mul_comm 13 j]at hr
  exact⟨b,off,cs,e,hr,hx⟩
theorem ps_op{w:World}{N:Nat}{ao:Option Addr}{cap:Nat}{q:P}(h:PS w N (.slice ao 1 cap) [q]):∃b off,ao=some ⟨b,off,none⟩∧b<w.heap.size∧w.cell? ⟨b,off,none⟩=some (.int .i64 (opP q)):=by
 generalize hv:Value.slice ao 1 cap=v at h
 generalize hl:[q]=l at h
 cases h with
 | mk ao2 cap2 l hll h =>
  subst hl
  injection hv with e1 e2 e3
  subst e1
  have h0:=h 0 (by simp)
  simp only[List.getElem_cons_zero]at h0
  generalize hq:q=q2 at h0
  cases h0 with
  |mk ao o op lang var vars rows bgp spots hops flag e aggs sorts skip limit ins s3 s4 s5 s6 s7 s9 s10 s11 s14 c0=>
   subst hq
   obtain⟨b,off,rfl,hlt,g0⟩:=c0
   exact⟨b,off,rfl,hlt,g0⟩
theorem XV.form{w:World}{N:Nat}{cs:Array Value}{x:X}(h:XV w N (.agg cs) x):∃op t k b n t2 u2 a1 m1 c1 f a2 m2 c2 a3 m3 c3 a4 m4 c4 a5 m5 c5,cs=c13 op t k b n t2 u2 (.slice a1 m1 c1) f (.slice a2 m2 c2) (.slice a3 m3 c3) (.slice a4 m4 c4) (.slice a5 m5 c5):=by
 generalize hv:Value.agg cs=v at h
 cases h with
 |mk op t k b n t2 u2 s l f aa ca args ap cp plan am mt cm ag gp cg h0 h1 hk hn h2 h3 hl ha hp hm hg=>
  injection hv with hv
  obtain⟨a1,c1,rfl⟩:=hl.form6
  exact⟨_,_,_,_,_,_,_,_,_,_,_,_,_,_,_,_,_,_,_,_,_,_,_,hv⟩
end Go.Proofs.YtcaeipdgbaligaaGreatDoor.ex
set_option linter.unusedSimpArgs false
set_option linter.unusedVariables false
set_option maxHeartbeats 2000000
namespace Go.Proofs.YtcaeipdgbaligaaGreatDoor.ex
open Go.ChangeShapes Go.WideShapes Go.ChangeAt Go.RowKit kit dec val tab
set_option maxRecDepth 100000
theorem size_weak (N : Nat) (hN : N ≤ 1048576) : ∀ m (w : World) (s : Value) (l : List V), SizeOf.sizeOf l < m → LA w N s l → Calls Tryz.prog 11 #[s] w (IP w) := by
 intro m
 induction m with
 |zero=>intro w s l hm;omega
 | succ m ih =>
  intro w s l hm ha
  cases ha with
  | mk ao cap l hl h =>
   replace h:=Hd h
   replace ih:=Hd ih
   have hli:(l.length:Int)≤1048576:=by omega
   go_enter Tryz.func11,Tryz.ntmps11
   go_wp2
   go_loopw [3,4] (fun v3 v wr=>∃(k:Nat) (r:Int),k≤l.length∧v=.int .i64 k∧v3=.int .i64 r∧Hid (Below w.heap.size w wr)) (fun _ v _=>l.length-(intOf v).toNat)
   case atStart=>exact⟨0,0,by omega,rfl,rfl,Hd (Below.refl _ _)⟩
   case round =>
    obtain⟨k,r,hk,rfl,rfl,hb⟩:=hrel
    obtain⟨w0,rfl⟩:∃w0:World,w0=wr:=⟨_,rfl⟩
    by_cases hlt:k<l.length
    ·have hki:(k:Int)<(l.length:Int):=by omega
     have hel:=(h.out k hlt).stay hb.out
     rw[Nat.mul_comm 6 k]at hel
     have hmem:SizeOf.sizeOf (l[k]'(by omega))<SizeOf.sizeOf l:=List.sizeOf_lt_of_mem (List.getElem_mem _)
     generalize l[k]'(by omega)=v at hel hmem
     cases hel with
     | mk b off o k1 bo n t x l1 s hr hk1 hn ht hx hsl =>
      obtain⟨aoE,capE,rfl⟩:=LA.form6 hsl
      have hm1:SizeOf.sizeOf l1<m:=by simp at hmem;omega
      have hdw:Below w0.heap.size w0 w0.drew:=below_drewN (Below.refl _ _) 1
      have hb0:=Hd (hb.out.trans (hdw.mono hb.out.size))
      have hcall:=ih.out w0.drew _ l1 hm1 (hsl.stay hdw)
      replace hcall:=Hd hcall
      have hS0:Row6 w0.drew b (off+k * 6) k1 bo n t x (.slice aoE l1.length capE):=hr.below hdw
      clear hr hsl hmem hdw hm1
      go_upto_region 5 with fail
      refine wp_region_held_drew (S:=fun V=>Row6 V b (off+k * 6) k1 bo n t x (.slice aoE l1.length capE)) (by kernel_rfl) hS0 (fun hS=>?_)
      have hV:=hS0
      clear hS0
      generalize w0.drew=V0 at *
      refine tkS [0,1,2,3,4,5,6,7,8,9,10,11,12,13,14,15,16,17,18,19,20,21,22] ?_
      iterate 23
       refine tkC ?_ rfl (fun w' hS=>?_) hS ?_
       rotate_left
       ·
        obtain⟨x0,x1,x2,x3,x4,x5⟩:=hS.six
        go_simp
        try with_reducible rfl
      refine rdH 23 rfl (fun K hK=>?_)
      clear hS
      go_simp
      refine(hcall.out).mono ?_
      rintro e w5 ⟨r2,rfl,hb5⟩
      go_wp2_with fail
      refine hKo hK (hV.below hb5) (fun hS=>?_)
      clear hK K
      have hb3:=Hd (hb0.out.trans (hb5.mono hb0.out.size))
      refine tkS [24,25] ?_
      iterate 2
       refine tkC ?_ rfl (fun w' hS=>?_) hS ?_
       rotate_left
       ·
        skip
        go_simp
        try with_reducible rfl
      refine wpAnyH_done (by kernel_rfl) ?_ _
      clear hS hb5 hcall hV hb0 hb
      go_wp2
      go_roundw
      case rel=>exact⟨k+1,_,by omega,by go_num,rfl,hb3⟩
      case measure=>simp[intOf];omega
    ·have hki:¬(k:Int)<(l.length:Int):=by omega
     go_wp2
     go_ret
     exact⟨_,rfl,hb.out⟩
theorem small_at{w:World}{ao:Option Addr}{cap:Nat}{l:List X}(h:XS w 1048576 (.slice ao l.length cap) l)(j:Nat)(hj:j<l.length):∃b off o1 s1 k2 b1 n1 s2 s3 e1,∃lv:List V,∃e3 f1 e4,∃args:List X,∃e6 e7 e8 e9 d1 d2 d3 d4 d5 d6,ao=some ⟨b,off,none⟩∧Row13 w b (off+j * 13) #[.int .i64 o1,.string s1,.int .i64 k2,.bool b1,.int .i64 n1,.string s2,.string s3,.slice e1 lv.length e3,.bool f1,.slice e4 args.length e6,.slice e7 e8 e9,.slice d1 d2 d3,.slice d4 d5 d6]∧LA w 1048576 (.slice e1 lv.length e3) lv∧XS w 1048576 (.slice e4 args.length e6) args∧SizeOf.sizeOf args<SizeOf.sizeOf l∧okV 1048576 (.mk k2 b1 n1 s2 s3 lv):=by
 obtain⟨b,off,cs,e,hr,hx⟩:=xs_at h j hj
 have hmem:SizeOf.sizeOf l[j]<SizeOf.sizeOf l:=List.sizeOf_lt_of_mem (List.getElem_mem hj)
 generalize l[j]=x at hx hmem
 generalize hv:Value.agg cs=v at hx
 cases hx with
 |mk op t k bo n t2 u2 s lv f aa ca args ap cp plan am mt cm ag gp cg h0 h1 hk hn h2 h3 hl ha hp hm hg=>
  injection hv with hv
  subst hv
  obtain⟨a1,a3,rfl⟩:=hl.form6
  exact⟨b,off,op,t,k,bo,n,t2,u2,a1,lv,a3,f,aa,args,ca,ap,_,cp,am,mt,cm,ag,gp,cg,e,hr,hl,ha,by simp at hmem;omega,⟨hk,hn,h2,h3⟩⟩
end Go.Proofs.YtcaeipdgbaligaaGreatDoor.ex
set_option linter.unusedSimpArgs false
set_option linter.unusedVariables false
set_option maxHeartbeats 8000000
namespace Go.Proofs.YtcaeipdgbaligaaGreatDoor.ex
open Go.ChangeShapes Go.WideShapes Go.ChangeAt Go.RowKit kit dec val tab
set_option maxRecDepth 100000
theorem la_one(w:World){k2:Int}{b1:Bool}{n1:Int}{s2 s3:ByteArray}{e1:Option Addr}{e3:Nat}{lv:List V}(ha:LA w 1048576 (.slice e1 lv.length e3) lv)(hok:okV 1048576 (.mk k2 b1 n1 s2 s3 lv)):
 LA (w.alloc (.cells #[.int .i64 k2,.bool b1,.int .i64 n1,.string s2,.string s3,.slice e1 lv.length e3] 38)) 1048576 (.slice (some ⟨w.heap.size,0,none⟩) [V.mk k2 b1 n1 s2 s3 lv].length 1) [V.mk k2 b1 n1 s2 s3 lv]:=by
 have hq:=Blk.new w #[.int .i64 k2,.bool b1,.int .i64 n1,.string s2,.string s3,.slice e1 lv.length e3] 38
 have hal:Below w.heap.size w (w.alloc (.cells #[.int .i64 k2,.bool b1,.int .i64 n1,.string s2,.string s3,.slice e1 lv.length e3] 38)):=(Below.refl _ _).alloc (Nat.le_refl _) _
 refine .mk _ 1 _ (by simp) (fun j hj=>?_)
 obtain rfl:j=0:=by simp at hj;omega
 exact .mk w.heap.size 0 _ k2 b1 n1 s2 s3 lv _ ⟨hq.lt,hq.cell 0 rfl,hq.cell 1 rfl,hq.cell 2 rfl,hq.cell 3 rfl,hq.cell 4 rfl,hq.cell 5 rfl⟩ hok.1 hok.2.1 hok.2.2.1 hok.2.2.2 (ha.stay hal)
theorem small_rec : ∀ m (w : World) (aa : Option Addr) (ca : Nat) (l : List X), SizeOf.sizeOf l < m → XS w 1048576 (.slice aa l.length ca) l → ∀ deep : Int, 0 ≤ deep → deep ≤ 201 →
 Calls Tryz.prog 10 #[.slice aa l.length ca,.int .i64 deep] w (IP w):=by
 intro m
 induction m with
 |zero=>intro w aa ca l hm;omega
 | succ m ih =>
  intro w aa ca l hm ha deep hd0 hd1
  obtain⟨_,_,_,hxl⟩:=xs_form ha
  have hni:(l.length:Int)≤1048576:=by omega
  replace ha:=Hd ha
  replace ih:=Hd ih
  go_enter Tryz.func10,Tryz.ntmps10
  go_wp2
  go_loopw [5,6] (fun v5 v6 wr=>∃(i:Nat) (r:Int),i≤l.length∧v6=.int .i64 (i:Int)∧v5=.int .i64 r∧Hid (Below w.heap.size w wr)) (fun _ v _=>l.length-(intOf v).toNat)
  case atStart=>exact⟨0,0,by omega,rfl,rfl,Hd (Below.refl _ _)⟩
  case round =>
   obtain⟨i,r,hi,rfl,rfl,hb⟩:=hrel
   obtain⟨u,rfl⟩:∃u:World,u=wr:=⟨_,rfl⟩
   by_cases hlt:i<l.length
   ·have hii:(i:Int)<(l.length:Int):=by omega
    by_cases hdp:(200:Int)<deep
    ·go_wp2
     go_ret
     exact⟨_,rfl,hb.out⟩
    obtain⟨bA,oA,o1,s1,k2,b1,n1,s2,s3,e1,lv,e3,f1,e4,args,e6,e7,e8,e9,d1,d2,d3,d4,d5,d6,rfl,hr,hlv,has,hsz,hok⟩:=small_at ha.out i hlt
    have hB:=hb.out.trans (Below_drewN 1 (Below.refl w.heap.size u))
    have hB:Below w.heap.size w u.drew:=hB
    have hS0:=hr.below hB
    have hsm:SizeOf.sizeOf args<m:=by omega
    have hwr:IntKind.i64.wrap (deep+1)=deep+1:=IntWalk.i64_in (deep+1) (by omega)
    have cA:=fun V (hV:Below w.heap.size w V)=>ih.out V e4 e6 args hsm (XS.stay hV has) (deep+1) (by omega) (by omega)
    rw[←hwr]at cA
    replace cA:=Hd cA
    clear hwr
    clear hr hsz hsm hb
    go_upto_region 7 with fail
    go_cut [5] from 7 to 36 (fun c wx=>∃r2,c=.int .i64 r2∧Hid (Below w.heap.size w wx))
    case first=>
     refine wp_region_held_drew (S:=fun V=>Row13 V bA (oA+i * 13) #[.int .i64 o1,.string s1,.int .i64 k2,.bool b1,.int .i64 n1,.string s2,.string s3,.slice e1 lv.length e3,.bool f1,.slice e4 args.length e6,.slice e7 e8 e9,.slice d1 d2 d3,.slice d4 d5 d6]) (by kernel_rfl) hS0 (fun hS=>?_)
     generalize u.drew=V0 at *
     refine tkS [0,1,2,3,4,5,6,7,8,11,12,13,14,15] ?_
     iterate 14
      refine tkC ?_ rfl (fun w' hS=>?_) hS ?_
      rotate_left
      ·
       obtain⟨y0,y1,y2,y3,y4,y5,y6,y7,y8,y9,y10,y11,y12⟩:=hS.all
       go_simp
       try with_reducible rfl
     refine wpAnyH_ready (rs:=[9,16]) (by kernel_rfl) (by simp) ?_
     refine AllReadyH.cons rfl (fun K hK=>?nd) (AllReadyH.cons rfl (fun K hK=>?al) AllReadyH.nil)
     case nd=>
      clear hS
      go_simp
      refine(cA.out V0 hB).mono ?_
      rintro e ub ⟨q,rfl,hbl⟩
      go_wp2_with fail
      refine hKo hK (hS0.below hbl) (fun hS=>?_)
      clear hK K
      have hS0:=hS0.below hbl
      have hB:=hB.trans (hbl.mono hB.size)
      refine tkH 10 ?_ rfl (fun w' hS=>?_) hS ?_
      rotate_left
      ·
       skip
       go_simp
       try with_reducible rfl
      refine rdH 16 rfl (fun K hK=>?_)
      clear hS
      go_simp
      go_wp2_with fail
      obtain⟨ua,hua⟩:∃ua,ub.alloc (.cells #[.int .i64 k2,.bool b1,.int .i64 n1,.string s2,.string s3,.slice e1 lv.length e3] 38)=ua:=⟨_,rfl⟩
      have hal:Below (ub).heap.size ub ua:=by rw[←hua];exact(Below.refl _ _).alloc (Nat.le_refl _) _
      have hone:=la_one ub (hlv.stay hB) hok
      rw[hua]at hone
      rw[hua]
      have hS0:=hS0.below hal
      refine hKo hK hS0 (fun hS=>?_)
      clear hK K
      have hB:=hB.trans (hal.mono hB.size)
      refine rdH 17 rfl (fun K hK=>?_)
      clear hS
      go_simp
      refine(size_weak 1048576 (by omega) _ ua _ [V.mk k2 b1 n1 s2 s3 lv] (Nat.lt_succ_self _) hone).mono ?_
      rintro e uc ⟨q2,rfl,hbt⟩
      go_wp2_with fail
      refine hKo hK (hS0.below hbt) (fun hS=>?_)
      clear hK K
      have hB:=Hd (hB.trans (hbt.mono hB.size))
      refine tkS [18,19] ?_
      iterate 2
       refine tkC ?_ rfl (fun w' hS=>?_) hS ?_
       rotate_left
       ·
        skip
        go_simp
        try with_reducible rfl
      refine wpAnyH_done (by kernel_rfl) ?_ _
      clear hS
      go_wp2
      go_meet
      exact⟨_,rfl,hB⟩
     case al=>
      clear hS
      go_simp
      go_wp2_with fail
      obtain⟨ua,hua⟩:∃ua,V0.alloc (.cells #[.int .i64 k2,.bool b1,.int .i64 n1,.string s2,.string s3,.slice e1 lv.length e3] 38)=ua:=⟨_,rfl⟩
      have hal:Below (V0).heap.size V0 ua:=by rw[←hua];exact(Below.refl _ _).alloc (Nat.le_refl _) _
      have hone:=la_one V0 (hlv.stay hB) hok
      rw[hua]at hone
      rw[hua]
      have hS0:=hS0.below hal
      refine hKo hK hS0 (fun hS=>?_)
      clear hK K
      have hB:=hB.trans (hal.mono hB.size)
      refine rdH 9 rfl (fun K hK=>?_)
      clear hS
      go_simp
      refine(cA.out ua hB).mono ?_
      rintro e ub ⟨q,rfl,hbl⟩
      go_wp2_with fail
      refine hKo hK (hS0.below hbl) (fun hS=>?_)
      clear hK K
      have hS0:=hS0.below hbl
      have hB:=hB.trans (hbl.mono hB.size)
      have hone:=hone.stay hbl
      refine tkH 10 ?_ rfl (fun w' hS=>?_) hS ?_
      rotate_left
      ·
       skip
       go_simp
       try with_reducible rfl
      refine rdH 17 rfl (fun K hK=>?_)
      clear hS
      go_simp
      refine(size_weak 1048576 (by omega) _ ub _ [V.mk k2 b1 n1 s2 s3 lv] (Nat.lt_succ_self _) hone).mono ?_
      rintro e uc ⟨q2,rfl,hbt⟩
      go_wp2_with fail
      refine hKo hK (hS0.below hbt) (fun hS=>?_)
      clear hK K
      have hB:=Hd (hB.trans (hbt.mono hB.size))
      refine tkS [18,19] ?_
      iterate 2
       refine tkC ?_ rfl (fun w' hS=>?_) hS ?_
       rotate_left
       ·
        skip
        go_simp
        try with_reducible rfl
      refine wpAnyH_done (by kernel_rfl) ?_ _
      clear hS
      go_wp2
      go_meet
      exact⟨_,rfl,hB⟩
    case rest=>
     obtain⟨r2,rfl,hb2⟩:=hcut
     clear hB hS0 hlv has cA hok
     by_cases hbig:(100000:Int)<r2
     ·go_wp2
      go_ret
      exact⟨_,rfl,hb2.out⟩
     ·go_wp2
      go_roundw
      case rel=>exact⟨i+1,_,hlt,by go_num,rfl,hb2⟩
      case measure=>simp[intOf];omega
   ·have hii:¬(i:Int)<(l.length:Int):=by omega
    go_wp2
    go_ret
    exact⟨_,rfl,hb.out⟩
end Go.Proofs.YtcaeipdgbaligaaGreatDoor.ex
set_option linter.unusedSimpArgs false
set_option linter.unusedVariables false
set_option maxHeartbeats 4000000
namespace Go.Proofs.YtcaeipdgbaligaaGreatDoor.ex
open Go.ChangeShapes Go.WideShapes Go.ChangeAt Go.RowKit kit dec val tab
set_option maxRecDepth 100000
def LtP(P:Prop)(w:World)(e:Ending)(w':World):Prop:=∃b,e=.returned (.bool b)∧Below w.heap.size w w'∧(b=true→P)
theorem light_any(w:World)(lang:Int)(la:Option Addr)(lc:Nat)(xs:List X)(na:Option Addr)(nl nc:Nat)(va:Option Addr)(vc:Nat)(vs:List V)(an:Option Addr)(nn cn:Nat)(ae:Option Addr)(ne ce:Nat)(ka:Option Addr)(kn kc:Nat)(gn:List NodeD)(ge:List EdgeD)
 (hx:XS w 1048576 (.slice la xs.length lc) xs)(hnl:nl≤1048576)(hv:LA w 1048576 (.slice va vs.length vc) vs)(hN:NodesA w 1048576 (.slice an nn cn) gn)(hE:EdgesG w 1048576 (.slice ae ne ce) ge)(hkn:kn≤1048576):
 Calls Tryz.prog 4 #[.agg #[.int .i64 lang,.slice la xs.length lc,.slice na nl nc,.slice va vs.length vc,.slice an nn cn,.slice ae ne ce,.slice ka kn kc]] w (LtP (nl≤vs.length∧nl≤40) w):=by
 obtain⟨W,hW⟩:∃W,w.alloc (.cells #[.int .i64 lang,.slice la xs.length lc,.slice na nl nc,.slice va vs.length vc,.slice an nn cn,.slice ae ne ce,.slice ka kn kc] 31)=W:=⟨_,rfl⟩
 have hal:Below w.heap.size w W:=by rw[←hW];exact(Below.refl _ _).alloc (Nat.le_refl _) _
 have hq:Blk W w.heap.size #[.int .i64 lang,.slice la xs.length lc,.slice na nl nc,.slice va vs.length vc,.slice an nn cn,.slice ae ne ce,.slice ka kn kc] 31:=by rw[←hW];exact Blk.new _ _ _
 have hvl:vs.length≤1048576:=by
  generalize hvv:Value.slice va vs.length vc=v at hv
  cases hv with
  |mk ao2 cap2 l hl h=>exact hl
 have hnn:nn≤1048576:=by
  obtain⟨_,_,e,hl,_⟩:=hN
  cases e
  exact hl
 have hne:ne≤1048576:=by
  obtain⟨_,_,e,hl,_⟩:=hE
  cases e
  exact hl
 have i1:(nl:Int)≤1048576:=by omega
 have i2:(vs.length:Int)≤1048576:=by omega
 have i3:(nn:Int)≤1048576:=by omega
 have i4:(ne:Int)≤1048576:=by omega
 have i5:(kn:Int)≤1048576:=by omega
 have cS:=Hd (small_rec _ W la lc xs (Nat.lt_succ_self _) (XS.stay hal hx) 0 (by omega) (by omega))
 have cZ:=Hd (fun V (hV:Below w.heap.size w V)=>size_weak 1048576 (by omega) _ V _ vs (Nat.lt_succ_self _) (hv.stay hV))
 have cG:=Hd (fun V (hV:Below w.heap.size w V)=>gmay_weak V _ _ gn ge (hN.stay hV) (hE.stay hV))
 have q1:=hq.cell 1 rfl
 replace hal:=Hd hal
 replace hq:=Hd hq
 replace hW:=Hd hW
 clear hx hv hN hE
 go_enter Tryz.func4,Tryz.ntmps4
 go_upto_region 1 with fail
 rw[hW.out]
 go_wp2_with fail
 refine cS.out.mono ?_
 rintro e w2 ⟨r,rfl,hb2⟩
 clear q1
 have hB2:=hal.out.trans (hb2.mono hal.out.size)
 have hq2:Blk w2 w.heap.size #[.int .i64 lang,.slice la xs.length lc,.slice na nl nc,.slice va vs.length vc,.slice an nn cn,.slice ae ne ce,.slice ka kn kc] 31:=(hb2.block _ hq.out.lt).trans hq.out
 have q2:=hq2.cell 2 rfl
 have q3:=hq2.cell 3 rfl
 have cZ2:=Hd (cZ.out w2 hB2)
 replace hB2:=Hd hB2
 replace hq2:=Hd hq2
 clear cS hb2
 by_cases h1:r≤3000
 ·by_cases h2:(nl:Int)≤40
  ·by_cases h3:(nl:Int)≤(vs.length:Int)
   ·go_wp2_with fail
    refine cZ2.out.mono ?_
    rintro e w3 ⟨r2,rfl,hb3⟩
    clear q2 q3
    have hB3:=hB2.out.trans (hb3.mono hB2.out.size)
    have hq3:Blk w3 w.heap.size #[.int .i64 lang,.slice la xs.length lc,.slice na nl nc,.slice va vs.length vc,.slice an nn cn,.slice ae ne ce,.slice ka kn kc] 31:=(hb3.block _ hq2.out.lt).trans hq2.out
    have q4:=hq3.cell 4 rfl
    have q5:=hq3.cell 5 rfl
    have q6:=hq3.cell 6 rfl
    have cG3:=Hd (cG.out w3 hB3)
    replace hB3:=Hd hB3
    clear hq3 hb3 cZ2
    by_cases h4:r2≤2000
    ·by_cases h5:(nn:Int)+(ne:Int)≤60
     ·by_cases h6:(kn:Int)≤8
      ·go_wp2_with fail
       refine cG3.out.mono ?_
       rintro e w4 ⟨q,rfl,hb4⟩
       have hB4:=Hd (hB3.out.trans (hb4.mono hB3.out.size))
       clear q4 q5 q6 cG3 hb4
       go_wp2
       go_ret
       exact⟨_,rfl,hB4.out,fun _=>⟨by omega,by omega⟩⟩
      ·go_wp2
       go_ret
       exact⟨_,rfl,hB3.out,fun h=>by cases h⟩
     ·go_wp2
      go_ret
      exact⟨_,rfl,hB3.out,fun h=>by cases h⟩
    ·go_wp2
     go_ret
     exact⟨_,rfl,hB3.out,fun h=>by cases h⟩
   ·go_wp2
    go_ret
    exact⟨_,rfl,hB2.out,fun h=>by cases h⟩
  ·go_wp2
   go_ret
   exact⟨_,rfl,hB2.out,fun h=>by cases h⟩
 ·go_wp2
  go_ret
  exact⟨_,rfl,hB2.out,fun h=>by cases h⟩
end Go.Proofs.YtcaeipdgbaligaaGreatDoor.ex
