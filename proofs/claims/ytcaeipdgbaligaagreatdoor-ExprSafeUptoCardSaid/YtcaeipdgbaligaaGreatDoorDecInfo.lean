/- Texts RefNum, RefReadP, RefCmpP, RefBytes, RefInts, DecInfo, one behind the other. -/
import Derived.Test.YtcaeipdgbaligaaGreatDoorDecA
import Derived.Deep.DeepCutAuto
set_option linter.unusedSimpArgs false
set_option linter.unusedVariables false
set_option maxRecDepth 100000
namespace Go.Proofs.YtcaeipdgbaligaaGreatDoor.dec
open Go.ChangeShapes Go.WideShapes Go.ChangeAt Go.RowKit kit
def vL:List Nat→Nat
 |[]=>0
 |d::r=>d+10 * vL r
def dgs(D:List Nat):Prop:=∀d∈D,d<10
theorem dgs.tail{d:Nat}{r:List Nat}(h:dgs (d::r)):dgs r:=fun x hx=>h x (by simp[hx])
theorem dgs.head{d:Nat}{r:List Nat}(h:dgs (d::r)):d<10:=h d (by simp)
theorem vL_lt{D:List Nat}(h:dgs D):vL D<10 ^ D.length:=by
 induction D with
 |nil=>simp[vL]
 |cons d r ih=>
  have:=ih h.tail
  have:=h.head
  rw[vL,List.length_cons,Nat.pow_succ];omega
theorem vL_get{D:List Nat}(h:dgs D)(i:Nat):vL D / 10 ^ i % 10=D.getD i 0:=by
 induction D generalizing i with
 |nil=>simp[vL]
 | cons d r ih =>
  have hd:=h.head
  cases i with
  |zero=>simp[vL];omega
  |succ i=>
   rw[vL,Nat.pow_succ,Nat.mul_comm (10 ^ i) 10,←Nat.div_div_eq_div_mul,show(d+10 * vL r) / 10=vL r by omega,ih h.tail]
   simp
theorem vL_append(D E:List Nat):vL (D++E)=vL D+10 ^ D.length * vL E:=by
 induction D with
 |nil=>simp[vL]
 |cons d r ih=>rw[List.cons_append,vL,vL,ih,List.length_cons,Nat.pow_succ,Nat.mul_add,Nat.mul_comm (10 ^ r.length) 10,Nat.mul_assoc];omega
theorem vL_zero{D:List Nat}:vL D=0↔∀d∈D,d=0:=by
 induction D with
 |nil=>simp[vL]
 |cons d r ih=>rw[vL];simp only[List.mem_cons,forall_eq_or_imp,←ih];omega
theorem dgs_getD{D:List Nat}(h:dgs D)(i:Nat):D.getD i 0<10:=by
 rw[←vL_get h];exact Nat.mod_lt _ (by decide)
def IntsAt(w:World)(v:Value)(D:List Nat):Prop:=
 (v=.slice none 0 0∧D=[])∨∃b off cap,v=.slice (some ⟨b,off,none⟩) D.length cap∧b<w.heap.size∧∀j,j<D.length→w.cell? ⟨b,off+j,none⟩=some (.int .i64 (D.getD j 0:Nat))
theorem IntsAt.below{w w':World}{v:Value}{D:List Nat}(h:IntsAt w v D)(hb:Below w.heap.size w w'):IntsAt w' v D:=by
 rcases h with h|⟨b,off,cap,hv,hlt,hc⟩
 ·exact .inl h
 ·exact .inr ⟨b,off,cap,hv,Nat.lt_of_lt_of_le hlt hb.size,fun j hj=>(hb.cell (p:=⟨b,off+j,none⟩) hlt).trans (hc j hj)⟩
def atL(D:List Nat)(i:Int):Nat:=if i<0 then 0 else D.getD i.toNat 0
theorem atL_nat(D:List Nat)(i:Nat):atL D (i:Int)=D.getD i 0:=by unfold atL;rw[if_neg (by omega)];simp
theorem digit_any(c:Nat)(w:World)(hc:c<256):Calls Tryz.prog 207 #[.int .u8 (c:Nat)] w fun e w'=>e=.returned (.bool (decide (48≤c∧c≤57)))∧w'=w:=by
 by_cases h1:48≤c
 ·by_cases h2:c≤57
  ·have a1:(48:Int)≤(c:Int):=by omega
   have a2:(c:Int)≤57:=by omega
   rw[decide_eq_true ⟨h1,h2⟩]
   clear h1 h2
   go_enter Tryz.func207,Tryz.ntmps207
   go_wp2
   go_ret
   exact⟨rfl,rfl⟩
  ·have a1:(48:Int)≤(c:Int):=by omega
   have a2:¬((c:Int)≤57):=by omega
   rw[decide_eq_false (by omega)]
   clear h1 h2
   go_enter Tryz.func207,Tryz.ntmps207
   go_wp2
   go_ret
   exact⟨rfl,rfl⟩
 ·have a1:¬((48:Int)≤(c:Int)):=by omega
  rw[decide_eq_false (by omega)]
  clear h1
  go_enter Tryz.func207,Tryz.ntmps207
  go_wp2
  go_ret
  exact⟨rfl,rfl⟩
theorem at_any(v:Value)(D:List Nat)(i:Int)(w:World)(h:IntsAt w v D)(hl:D.length≤1000000000)(h0:-1000000000≤i)(h1:i≤1000000000):
 Calls Tryz.prog 208 #[v,.int .i64 i] w fun e w'=>e=.returned (.int .i64 (atL D i:Nat))∧w'=w:=by
 by_cases hn:i<0
 ·have e:atL D i=0:=by unfold atL;rw[if_pos hn]
  rw[e]
  rcases h with⟨rfl,rfl⟩|⟨b,off,cap,rfl,hlt,hc⟩
  ·go_enter Tryz.func208,Tryz.ntmps208
   go_wp2
   go_ret
   exact⟨rfl,rfl⟩
  ·clear hc
   go_enter Tryz.func208,Tryz.ntmps208
   go_wp2
   go_ret
   exact⟨rfl,rfl⟩
 ·obtain⟨k,rfl⟩:∃k:Nat,i=k:=⟨i.toNat,by omega⟩
  rw[atL_nat]
  rcases h with⟨rfl,rfl⟩|⟨b,off,cap,rfl,hlt,hc⟩
  ·have hk:(0:Int)≤(k:Int):=by omega
   have e:([]:List Nat).getD k 0=0:=by simp
   rw[e]
   go_enter Tryz.func208,Tryz.ntmps208
   go_wp2
   go_ret
   exact⟨rfl,rfl⟩
  ·by_cases hk:k<D.length
   ·have hcell:=hc k hk
    have hki:(k:Int)<(D.length:Int):=by omega
    generalize D.getD k 0=d at *
    clear hc
    go_enter Tryz.func208,Tryz.ntmps208
    go_wp2
    go_ret
    exact⟨rfl,rfl⟩
   ·have hki:(D.length:Int)≤(k:Int):=by omega
    have e:D.getD k 0=0:=by rw[List.getD_eq_getElem?_getD,List.getElem?_eq_none (by omega)];rfl
    rw[e]
    clear hc
    go_enter Tryz.func208,Tryz.ntmps208
    go_wp2
    go_ret
    exact⟨rfl,rfl⟩
theorem zero_any(v:Value)(D:List Nat)(w:World)(h:IntsAt w v D)(hl:D.length≤1000000000):
 Calls Tryz.prog 209 #[v] w fun e w'=>e=.returned (.bool (decide (vL D=0)))∧w'=w:=by
 rcases h with⟨rfl,rfl⟩|⟨b,off,cap,rfl,hlt,hc⟩
 ·have e:decide (vL []=0)=true:=by decide
  rw[e]
  go_enter Tryz.func209,Tryz.ntmps209
  go_wp2
  refine wp_loop_rounds 1 ?_;rw[rounds_succ]
  go_wp2
  go_ret
  exact⟨rfl,rfl⟩
 ·replace hc:=Hd hc
  go_enter Tryz.func209,Tryz.ntmps209
  go_wp2
  go_loop [3] (fun i=>∃k:Nat,k≤D.length∧i=.int .i64 k∧Hid (∀j,j<k→D.getD j 0=0)) (fun i=>D.length-(intOf i).toNat)
  case atStart=>exact⟨0,by omega,rfl,fun j hj=>by omega⟩
  case round=>
   obtain⟨k,hk,rfl,hz⟩:=hrel
   by_cases hlt:k<D.length
   ·have hcell:=hc.out k hlt
    have hki:(k:Int)<(D.length:Int):=by omega
    by_cases h0:D.getD k 0=0
    ·rw[h0]at hcell
     replace h0:=Hd h0
     go_wp2
     go_round
     case rel=>
      refine⟨k+1,by omega,by go_num,fun j hj=>?_⟩
      rcases Nat.lt_or_ge j k with e|e
      ·exact hz.out j e
      ·rw[show j=k by omega];exact h0.out
     case measure=>simp[intOf];omega
    ·have hne:decide (vL D=0)=false:=by
      apply decide_eq_false
      intro hv
      have:=vL_zero.1 hv (D.getD k 0) (by rw[List.getD_eq_getElem?_getD,List.getElem?_eq_getElem hlt];exact List.getElem_mem hlt)
      exact h0 this
     replace hne:=Hd hne
     have h1:(((D.getD k 0:Nat):Int) != 0)=true:=bne_iff_ne.2 (by omega)
     generalize D.getD k 0=d at *
     clear h0
     go_wp2
     go_ret
     exact⟨ret_bool hne.out.symm,rfl⟩
   ·have hki:¬((k:Int)<(D.length:Int)):=by omega
    have hv:decide (vL D=0)=true:=by
     apply decide_eq_true
     apply vL_zero.2
     intro d hd
     obtain⟨j,hj,rfl⟩:=List.getElem_of_mem hd
     have:=hz.out j (by omega)
     rwa [List.getD_eq_getElem?_getD,List.getElem?_eq_getElem hj]at this
    replace hv:=Hd hv
    go_wp2
    go_ret
    exact⟨ret_bool hv.out.symm,rfl⟩
end Go.Proofs.YtcaeipdgbaligaaGreatDoor.dec
set_option linter.unusedVariables false
namespace Go.Proofs.YtcaeipdgbaligaaGreatDoor.dec
def numT(neg:Bool)(r:List UInt8):Option (Bool×Nat×Nat):=
 if numB (Lib.cut r [46]).1&&(!(Lib.cut r [46]).2.2||numB (Lib.cut r [46]).2.1) then some (neg,val ((Lib.cut r [46]).1++(Lib.cut r [46]).2.1),(Lib.cut r [46]).2.1.length) else none
def numP(l:List UInt8):Option (Bool×Nat×Nat):=match l with
 |45::r=>numT true r
 |43::r=>numT false r
 |l=>numT false l
def readN:Option (Bool×Nat×Nat)→List UInt8×Int
 |some (n,N,sc)=>toldP n N sc
 |none=>([],6)
theorem readT_num(neg:Bool)(r:List UInt8):readT neg r=readN (numT neg r):=by
 unfold readT numT
 split<;>rfl
theorem numP_other(l:List UInt8)(h1:¬∃r,l=45::r)(h2:¬∃r,l=43::r):numP l=numT false l:=by
 unfold numP
 split
 ·rename_i r;exact absurd ⟨r,rfl⟩ h1
 ·rename_i r;exact absurd ⟨r,rfl⟩ h2
 ·rfl
theorem readP_num(l:List UInt8):readP l=readN (numP l):=by
 by_cases h1:∃r,l=45::r
 ·obtain⟨r,rfl⟩:=h1;exact readT_num true r
 ·by_cases h2:∃r,l=43::r
  ·obtain⟨r,rfl⟩:=h2;exact readT_num false r
  ·rw[readP_other l h1 h2,numP_other l h1 h2,readT_num]
theorem index_out(W P:List UInt8)(h:46∉W):Lib.index (W++46::P) [46]=(W.length:Int):=by
 induction W with
 |nil=>simp[Lib.index,List.isPrefixOf]
 |cons c W ih=>
  have hc:c≠46:=by intro e;subst e;exact h (by simp)
  have hp:[46].isPrefixOf (c::(W++46::P))=false:=by simp[List.isPrefixOf];exact fun e=>hc e.symm
  rw[List.cons_append,Lib.index,ih (fun e=>h (by simp[e])),hp]
  have:((W.length:Int)==-1)=false:=by simp
  simp[this]
theorem index_none(R:List UInt8)(h:46∉R):Lib.index R [46]=-1:=by
 induction R with
 |nil=>simp[Lib.index]
 |cons c W ih=>
  have hc:c≠46:=by intro e;subst e;exact h (by simp)
  have hp:[46].isPrefixOf (c::W)=false:=by simp[List.isPrefixOf];exact fun e=>hc e.symm
  rw[Lib.index,ih (fun e=>h (by simp[e])),hp]
  simp
theorem cut_out(W P:List UInt8)(h:46∉W):Lib.cut (W++46::P) [46]=(W,P,true):=by
 unfold Lib.cut
 rw[index_out W P h,if_pos (by omega)]
 simp
theorem cut_none(R:List UInt8)(h:46∉R):Lib.cut R [46]=(R,[],false):=by
 unfold Lib.cut
 rw[index_none R h,if_neg (by decide)]
theorem allD_mem{l:List UInt8}(h:allD l=true){c:UInt8}(hc:c∈l):isD c=true:=List.all_eq_true.1 h c hc
theorem allD_dot{l:List UInt8}(h:allD l=true):46∉l:=fun e=>absurd (allD_mem h e) (by decide)
theorem numB_not{l:List UInt8}{c:UInt8}(hc:c∈l)(h:isD c=false):numB l=false:=by
 cases hb:numB l with
 |false=>rfl
 |true=>rw[allD_mem (numB_all hb) hc]at h;cases h
def PS(l:List UInt8)(pt:Int):Prop:=(pt=-1∧allD l=true)∨∃W P,pt=(W.length:Int)∧l=W++46::P∧allD W=true∧allD P=true
theorem PS.digit{l:List UInt8}{pt:Int}(h:PS l pt){c:UInt8}(hc:isD c=true):PS (l++[c]) pt:=by
 rcases h with⟨h1,h2⟩|⟨W,P,h1,h2,h3,h4⟩
 ·exact .inl ⟨h1,by rw[allD_append,h2,allD_cons,hc];rfl⟩
 ·refine .inr ⟨W,P++[c],h1,by rw[h2];simp,h3,by rw[allD_append,h4,allD_cons,hc];rfl⟩
theorem PS.dot{l:List UInt8}(h:PS l (-1)):PS (l++[46]) (l.length:Int):=by
 rcases h with⟨_,h2⟩|⟨W,P,h1,_⟩
 ·exact .inr ⟨l,[],rfl,rfl,h2,rfl⟩
 ·omega
theorem PS.bad{l:List UInt8}{pt:Int}(h:PS l pt){c:UInt8}(hc:isD c=false)(hd:¬(c=46∧pt=-1))(neg:Bool)(rest:List UInt8):numT neg (l++c::rest)=none:=by
 rcases h with⟨h1,h2⟩|⟨W,P,h1,h2,h3,h4⟩
 ·have h46:c≠46:=fun e=>hd ⟨e,h1⟩
  have hl:=allD_dot h2
  by_cases hr:46∈rest
  ·obtain⟨R1,R2,hR,hn⟩:=List.eq_append_cons_of_mem hr
   have e:l++c::rest=(l++c::R1)++46::R2:=by rw[hR];simp
   have hn':46∉l++c::R1:=by
    simp only[List.mem_append,List.mem_cons,not_or]
    exact⟨hl,fun e=>h46 e.symm,hn⟩
   unfold numT
   rw[e,cut_out _ _ hn',numB_not (c:=c) (by simp) hc]
   rfl
  ·have hn':46∉l++c::rest:=by
    simp only[List.mem_append,List.mem_cons,not_or]
    exact⟨hl,fun e=>h46 e.symm,hr⟩
   unfold numT
   rw[cut_none _ hn',numB_not (c:=c) (by simp) hc]
   rfl
 ·have e:l++c::rest=W++46::(P++c::rest):=by rw[h2];simp
  unfold numT
  rw[e,cut_out _ _ (allD_dot h3),numB_not (l:=P++c::rest) (c:=c) (by simp) hc]
  simp
theorem PS.end{r:List UInt8}{pt:Int}(h:PS r pt)(neg:Bool):
 ((r.length=0∨pt=0∨pt=(r.length:Int)-1)∧numT neg r=none) ∨
 (¬(r.length=0∨pt=0∨pt=(r.length:Int)-1)∧numT neg r=some (neg,val (r.filter (· != 46)),if 0≤pt then r.length-1-pt.toNat else 0)∧(0≤pt→pt<(r.length:Int))∧1≤(r.filter (· != 46)).length∧allD (r.filter (· != 46))=true):=by
 have hf:∀l:List UInt8,allD l=true→l.filter (· != 46)=l:=fun l hl=>by
  rw[List.filter_eq_self]
  intro a ha
  have:=allD_mem hl ha
  simp only[bne_iff_ne,ne_eq]
  intro e;subst e;exact absurd this (by decide)
 rcases h with⟨h1,h2⟩|⟨W,P,h1,h2,h3,h4⟩
 ·subst h1
  by_cases hr:r=[]
  ·subst hr
   exact .inl ⟨.inl rfl,by unfold numT;rw[cut_none _ (by simp)];rfl⟩
  ·right
   have hlen:1≤r.length:=by cases r with|nil=>exact absurd rfl hr|cons a l=>simp
   have hnb:numB r=true:=by unfold numB;rw[h2];cases r with|nil=>exact absurd rfl hr|cons a l=>rfl
   refine⟨by omega,?_,by omega,by rw[hf r h2];exact hlen,by rw[hf r h2];exact h2⟩
   unfold numT
   rw[cut_none _ (allD_dot h2),hf r h2]
   simp[hnb]
 ·subst h2
  have hfl:(W++46::P).filter (· != 46)=W++P:=by
   rw[List.filter_append,hf W h3,List.filter_cons_of_neg (by decide),hf P h4]
  have hcut:=cut_out W P (allD_dot h3)
  rw[hfl,List.length_append,List.length_cons]
  by_cases hw:W=[]
  ·subst hw
   exact .inl ⟨.inr (.inl (by simpa using h1)),by unfold numT;rw[hcut];rfl⟩
  ·by_cases hp:P=[]
   ·subst hp
    exact .inl ⟨.inr (.inr (by simp;omega)),by unfold numT;rw[hcut];simp[numB]⟩
   ·have lW:1≤W.length:=by cases W with|nil=>exact absurd rfl hw|cons a l=>simp
    have lP:1≤P.length:=by cases P with|nil=>exact absurd rfl hp|cons a l=>simp
    have nW:numB W=true:=by unfold numB;rw[h3];cases W with|nil=>exact absurd rfl hw|cons a l=>rfl
    have nP:numB P=true:=by unfold numB;rw[h4];cases P with|nil=>exact absurd rfl hp|cons a l=>rfl
    right
    refine⟨by omega,?_,by omega,by rw[List.length_append];omega,by rw[allD_append,h3,h4];rfl⟩
    have e:(if 0≤pt then W.length+(P.length+1)-1-pt.toNat else 0)=P.length:=by rw[if_pos (by omega),h1];omega
    rw[e]
    unfold numT
    rw[hcut]
    simp[nW,nP]
def digL(l:List UInt8):List Nat:=((l.filter (· != 46)).map dv).reverse
theorem digL_dot(l:List UInt8):digL (46::l)=digL l:=by unfold digL;rw[List.filter_cons_of_neg (by decide)]
theorem digL_cons{c:UInt8}(h:c≠46)(l:List UInt8):digL (c::l)=digL l++[dv c]:=by
 unfold digL;rw[List.filter_cons_of_pos (by simpa using h),List.map_cons,List.reverse_cons]
theorem vL_rev(l:List UInt8):vL ((l.map dv).reverse)=val l:=by
 induction l with
 |nil=>rfl
 |cons c r ih=>rw[List.map_cons,List.reverse_cons,vL_append,ih,List.length_reverse,List.length_map,val_cons];simp[vL];rw[Nat.mul_comm,Nat.add_comm]
theorem digL_val(l:List UInt8):vL (digL l)=val (l.filter (· != 46)):=vL_rev _
theorem digL_length(l:List UInt8):(digL l).length=(l.filter (· != 46)).length:=by unfold digL;simp
theorem digL_le(l:List UInt8):(digL l).length≤l.length:=by rw[digL_length];exact List.length_filter_le _ _
theorem digL_dgs{l:List UInt8}(h:allD (l.filter (· != 46))=true):dgs (digL l):=by
 intro d hd
 unfold digL at hd
 rw[List.mem_reverse,List.mem_map]at hd
 obtain⟨c,hc,rfl⟩:=hd
 exact dv_lt (allD_mem h hc)
end Go.Proofs.YtcaeipdgbaligaaGreatDoor.dec
set_option linter.unusedSimpArgs false
set_option linter.unusedVariables false
namespace Go.Proofs.YtcaeipdgbaligaaGreatDoor.dec
open Go.ChangeShapes Go.WideShapes Go.ChangeAt Go.RowKit kit
theorem IntsAt.form{w:World}{v:Value}{D:List Nat}(h:IntsAt w v D):∃ao cap,v=.slice ao D.length cap:=by
 rcases h with⟨rfl,rfl⟩|⟨b,off,cap,rfl,_⟩
 ·exact⟨none,0,rfl⟩
 ·exact⟨_,_,rfl⟩
end Go.Proofs.YtcaeipdgbaligaaGreatDoor.dec
set_option linter.unusedVariables false
namespace Go.Proofs.YtcaeipdgbaligaaGreatDoor.dec
open Go.ChangeShapes Go.WideShapes Go.ChangeAt Go.RowKit kit
def bytesV(l:List UInt8):List Value:=l.map fun b=>.int .u8 (b.toNat:Int)
structure BW(W:World)(B:Nat)(v:Value)(l:List UInt8)(W1:World):Prop where
 below:Below B W W1
 own:W1.ownsRow B 5 1 v l.length (bytesV l)
theorem BW.start(W:World):BW W W.heap.size (.slice none 0 0) [] W:=⟨Below.refl _ _,World.ownsRow_nil _ _ _ _⟩
theorem BW.step{W W1 w':World}{B:Nat}{v v':Value}{l:List UInt8}(h:BW W B v l W1)(hB:B≤W1.heap.size)(o:Obj)(x:UInt8)
 (h1:w'.ownsRow B 5 1 v' (l.length+1) (bytesV l++[.int .u8 (x.toNat:Int)]))(h2:(W1.alloc o).grownBy w' v.ownBlock):BW W B v' (l++[x]) w':=by
 refine⟨(h.below.alloc hB _).grown h2 (by rw[World.size_alloc];omega) (fun k hk=>(h.own.lt k hk).1),?_⟩
 rw[List.length_append]
 simpa[bytesV]using h1
theorem BW.cells{W W1:World}{B g n cap:Nat}{l:List UInt8}(h:BW W B (.slice (some ⟨g,0,none⟩) n cap) l W1):∀j (hj:j<l.length),W1.cell? ((⟨g,0,none⟩:Addr).add j)=some (.int .u8 (l[j].toNat:Int)):=fun j hj=>
 h.own.cells rfl j _ (by simp[bytesV,List.getElem?_eq_getElem hj])
end Go.Proofs.YtcaeipdgbaligaaGreatDoor.dec
set_option linter.unusedVariables false
namespace Go.Proofs.YtcaeipdgbaligaaGreatDoor.dec
open Go.ChangeShapes Go.WideShapes Go.ChangeAt Go.RowKit kit
def intsV(l:List Nat):List Value:=l.map fun(d:Nat)=>.int .i64 (d:Int)
structure IW(W:World)(B:Nat)(v:Value)(l:List Nat)(W1:World):Prop where
 below:Below B W W1
 own:W1.ownsRow B 3 1 v l.length (intsV l)
theorem IW.start(W:World)(B:Nat):IW W B (.slice none 0 0) [] W:=⟨Below.refl _ _,World.ownsRow_nil _ _ _ _⟩
theorem IW.grown{W W1 w':World}{B:Nat}{v v':Value}{l m:List Nat}(h:IW W B v l W1)(hB:B≤W1.heap.size)(o:Obj)
 (h1:w'.ownsRow B 3 1 v' (l.length+m.length) (intsV l++intsV m))(h2:(W1.alloc o).grownBy w' v.ownBlock):IW W B v' (l++m) w':=by
 refine⟨(h.below.alloc hB _).grown h2 (by rw[World.size_alloc];omega) (fun k hk=>(h.own.lt k hk).1),?_⟩
 rw[List.length_append]
 simpa[intsV]using h1
theorem IW.step{W W1 w':World}{B:Nat}{v v':Value}{l:List Nat}(h:IW W B v l W1)(hB:B≤W1.heap.size)(o:Obj)(x:Nat)
 (h1:w'.ownsRow B 3 1 v' (l.length+1) (intsV l++[.int .i64 (x:Int)]))(h2:(W1.alloc o).grownBy w' v.ownBlock):IW W B v' (l++[x]) w':=
 h.grown hB o (m:=[x]) h1 h2
theorem own_ints{W1:World}{B:Nat}{v:Value}{l:List Nat}(h:W1.ownsRow B 3 1 v l.length (intsV l)):IntsAt W1 v l:=by
 rcases h.2 with⟨hv,hn⟩|⟨g,cap,cur,hv,hg,hh,_⟩
 ·exact .inl ⟨hv,List.eq_nil_of_length_eq_zero hn⟩
 ·subst hv
  refine .inr ⟨g,0,cap,rfl,(Array.getElem?_eq_some_iff.1 hh).1,fun j hj=>?_⟩
  rw[Nat.zero_add,h.cellAt j (by omega)]
  simp[intsV,List.getD_eq_getElem?_getD,List.getElem?_eq_getElem hj]
theorem grown_set(w:World)(k i:Nat)(u:Value):w.grownBy (w.setCell ⟨k,i,none⟩ u) (some k):=
 ⟨rfl,rfl,rfl,by simp,fun j _ hj=>heap_setCell_other w ⟨k,i,none⟩ j u (fun e=>hj (by simp[e]))⟩
theorem own_set{W1:World}{B k:Nat}{v:Value}{l:List Nat}(h:W1.ownsRow B 3 1 v l.length (intsV l))(hk:k<B)(i:Nat)(u:Value):(W1.setCell ⟨k,i,none⟩ u).ownsRow B 3 1 v l.length (intsV l):=by
 refine h.kept (grown_set W1 k i u) ?_
 by_cases hv:v.ownBlock=some k
 ·have:=(h.lt k hv).1;omega
 ·exact .inr hv
theorem IntsAt.news{w:World}{b off cap:Nat}{D:List Nat}(hc:∀j,j<D.length→w.cell? ⟨b,off+j,none⟩=some (.int .i64 (D.getD j 0:Nat))):
 ∀j u,(intsV D)[j]? = some u→w.cell? ((⟨b,off,none⟩:Addr).add j)=some u:=by
 intro j u hu
 have hj:j<D.length:=by
  have:=List.getElem?_eq_some_iff.1 hu
  obtain⟨h,_⟩:=this
  simpa[intsV]using h
 have hadd:(⟨b,off,none⟩:Addr).add j=⟨b,off+j,none⟩:=by unfold Addr.add;split<;>simp_all
 rw[hadd,hc j hj]
 simpa[intsV,List.getD_eq_getElem?_getD,List.getElem?_eq_getElem hj]using hu
theorem BW.conv{W W1:World}{B:Nat}{v:Value}{l:List UInt8}(h:BW W B v l W1)(hl:0<l.length):
 ∃g cap,v=.slice (some ⟨g,0,none⟩) l.length cap∧(convert 202 9 (.slice (some ⟨g,0,none⟩) l.length cap)).run Tryz.prog W1=.ok (.string ⟨l.toArray⟩) W1:=by
 rcases h.own.2 with⟨hv,hn⟩|⟨g,cap,cur,hv,hg,hh,_⟩
 ·omega
 ·subst hv
  exact⟨g,cap,rfl,run_convert_bytes_back W1 202 9 5 ⟨g,0,none⟩ cap l Tryz.underlying202 Tryz.underlying5 Tryz.underlying9 h.cells⟩
theorem newsI_one(w:World)(x:Value)(t:TypeId):∀j u,[x][j]? = some u→(w.alloc (.cells #[x] t)).cell? ((⟨w.heap.size,0,none⟩:Addr).add j)=some u:=by
 intro j u hu
 match j,hu with
 |0,hu=>
  have hadd:(⟨w.heap.size,0,none⟩:Addr).add 0=⟨w.heap.size,0,none⟩:=rfl
  rw[hadd,World.cell?_alloc_new]
  simpa using hu
 |j+1,hu=>simp at hu
end Go.Proofs.YtcaeipdgbaligaaGreatDoor.dec
set_option linter.unusedSimpArgs false
set_option linter.unusedVariables false
namespace Go.Proofs.YtcaeipdgbaligaaGreatDoor.dec
open Go.ChangeShapes Go.WideShapes Go.ChangeAt Go.RowKit kit
theorem infoByte:(Tryz.prog.info? 5).map (fun i=>(i.zero,i.size,i.bytes))=some (some (.int .u8 0),1,1):=by kernel_rfl
theorem res2{P:Program}{fn:Func}{p u:Tmp}{ty:TypeId}(h:fn.results=#[.cell p ty,.tmp u])(tmps:Array Value)(w:World)(g:Nat)(t:TypeId)(cs:Array Value)(fr:Nat×Nat)(d:TypeDesc)(v:Value)(hv:tmps.getD u undef=v)
 (hp:tmps.getD p undef=.pointer (some ⟨g,0,none⟩))(hg:w.heap[g]? = some (.cells cs t fr))
 (hu:P.underlying ty=some d)(hd:(match d with|.struct _|.array _ _=>true|_=>false)=true)(hi:(P.info? ty).map (·.size)=some cs.size):
 (results fn tmps).run P w=.ok (.tuple #[.agg cs,v]) w:=by
 subst hv
 rw[results_cell_tmp h,hp]
 simp only[asAddr,Sem.run_pure,Result.andThen_ok,run_loadVar_row w g t ty cs fr d hg hu hd hi]
theorem infoNum:(Tryz.prog.info? 239).map (·.size)=some 3:=by kernel_rfl
def numc(s:Bool)(v:Value)(sc:Nat):Array Value:=#[.bool s,v,.int .i64 sc]
theorem infoInt:(Tryz.prog.info? 3).map (fun i=>(i.zero,i.size,i.bytes))=some (some (.int .i64 0),1,8):=by kernel_rfl
end Go.Proofs.YtcaeipdgbaligaaGreatDoor.dec
