/- Texts XSortT, XSortP, one behind the other. -/
import Derived.Test.YtcaeipdgbaligaaGreatDoorXKRow
set_option linter.unusedSimpArgs false
set_option linter.unusedVariables false
set_option maxHeartbeats 4000000
namespace Go.Proofs.YtcaeipdgbaligaaGreatDoor.ex
open Go.ChangeShapes Go.WideShapes Go.ChangeAt Go.RowKit kit dec val tab
set_option maxRecDepth 100000
theorem tx_nth{t:TypeId}{w:World}{b n:Nat}(h:KRow TxK t w b n)(j:Nat)(hj:j<n):∃s,w.cell? ⟨b,j,none⟩=some (.string s):=by
 obtain⟨v,h1,s,rfl⟩:=h.nth j hj
 exact⟨s,h1⟩
def SrP(b:Nat)(w:World)(e:Ending)(w':World):Prop:=e=.returned (.tuple #[])∧KMv TxK 9 b w w'
theorem sortTexts_any (w : World) (b n cap : Nat) (hn : n ≤ 1048576) (h : KRow TxK 9 w b n) : Calls Tryz.prog 32 #[.slice (some ⟨b, 0, none⟩) n cap] w (SrP b w) := by
 have hni:(n:Int)≤1048576:=by omega
 replace h:=Hd h
 go_enter Tryz.func32,Tryz.ntmps32
 go_wp2
 go_loopw [2] (fun i wr=>∃k:Nat,k≤n+1∧i=.int .i64 (k:Int)∧Hid (KMv TxK 9 b w wr)) (fun i _=>n+1-(intOf i).toNat)
 case atStart=>exact⟨1,by omega,rfl,Hd (KMv.refl _ _ _ _)⟩
 case round =>
  obtain⟨i,hi,rfl,hk⟩:=hrel
  by_cases hlt:i<n
  ·have hii : (i : Int) < (n : Int) := by omega
   go_wp2
   go_loopw [3] (fun v wr2=>∃k:Nat,k≤i∧v=.int .i64 (k:Int)∧Hid (KMv TxK 9 b w wr2)) (fun v _=>(intOf v).toNat)
   case atStart=>exact⟨i,by omega,rfl,hk⟩
   case round =>
    obtain⟨k,hki,rfl,hk2⟩:=hrel
    obtain⟨u,rfl⟩:∃u:World,u=wr:=⟨_,rfl⟩
    clear hk
    go_upto_region 4 with fail
    go_cut [25] from 12 to 44 (fun c wx=>∃q,c=.bool q∧(q=true→0<k)∧Hid (KMv TxK 9 b w wx))
    case first=>
     have hkd:Hid (KMv TxK 9 b w u.drew):=Hd (hk2.out.drewN 1)
     rcases k with _|k
     ·refine wp_region_held_drew (S:=fun V=>True) (by kernel_rfl) trivial (fun hS=>?_)
      generalize u.drew=V0 at *
      refine tkS [0,1,2] ?_
      iterate 3
       refine tkC ?_ rfl (fun w' hS=>?_) hS ?_
       rotate_left
       ·
        skip
        go_simp
        try with_reducible rfl
      refine wpAnyH_take (i:=3) (v:=undef) rfl (by kernel_rfl) (by kernel_rfl) (by kernel_rfl) (fun _ _ _ h=>h) (.inr ⟨by kernel_rfl,rfl⟩) hS ?_
      simp only[List.getElem_toArray,List.getElem_cons_succ,List.getElem_cons_zero,Act.put,List.setIfInBounds_toArray,List.set_cons_zero,List.set_cons_succ]
      refine wpAnyH_take (i:=4) (v:=undef) rfl (by kernel_rfl) (by kernel_rfl) (by kernel_rfl) (fun _ _ _ h=>h) (.inr ⟨by kernel_rfl,rfl⟩) hS ?_
      simp only[List.getElem_toArray,List.getElem_cons_succ,List.getElem_cons_zero,Act.put,List.setIfInBounds_toArray,List.set_cons_zero,List.set_cons_succ]
      refine wpAnyH_take (i:=5) (v:=undef) rfl (by kernel_rfl) (by kernel_rfl) (by kernel_rfl) (fun _ _ _ h=>h) (.inr ⟨by kernel_rfl,rfl⟩) hS ?_
      simp only[List.getElem_toArray,List.getElem_cons_succ,List.getElem_cons_zero,Act.put,List.setIfInBounds_toArray,List.set_cons_zero,List.set_cons_succ]
      refine wpAnyH_take (i:=6) (v:=undef) rfl (by kernel_rfl) (by kernel_rfl) (by kernel_rfl) (fun _ _ _ h=>h) (.inr ⟨by kernel_rfl,rfl⟩) hS ?_
      simp only[List.getElem_toArray,List.getElem_cons_succ,List.getElem_cons_zero,Act.put,List.setIfInBounds_toArray,List.set_cons_zero,List.set_cons_succ]
      refine wpAnyH_take (i:=7) (v:=undef) rfl (by kernel_rfl) (by kernel_rfl) (by kernel_rfl) (fun _ _ _ h=>h) (.inr ⟨by kernel_rfl,rfl⟩) hS ?_
      simp only[List.getElem_toArray,List.getElem_cons_succ,List.getElem_cons_zero,Act.put,List.setIfInBounds_toArray,List.set_cons_zero,List.set_cons_succ]
      refine wpAnyH_take (i:=8) (v:=undef) rfl (by kernel_rfl) (by kernel_rfl) (by kernel_rfl) (fun _ _ _ h=>h) (.inr ⟨by kernel_rfl,rfl⟩) hS ?_
      simp only[List.getElem_toArray,List.getElem_cons_succ,List.getElem_cons_zero,Act.put,List.setIfInBounds_toArray,List.set_cons_zero,List.set_cons_succ]
      refine wpAnyH_take (i:=9) (v:=undef) rfl (by kernel_rfl) (by kernel_rfl) (by kernel_rfl) (fun _ _ _ h=>h) (.inr ⟨by kernel_rfl,rfl⟩) hS ?_
      simp only[List.getElem_toArray,List.getElem_cons_succ,List.getElem_cons_zero,Act.put,List.setIfInBounds_toArray,List.set_cons_zero,List.set_cons_succ]
      refine wpAnyH_take (i:=10) (v:=undef) rfl (by kernel_rfl) (by kernel_rfl) (by kernel_rfl) (fun _ _ _ h=>h) (.inr ⟨by kernel_rfl,rfl⟩) hS ?_
      simp only[List.getElem_toArray,List.getElem_cons_succ,List.getElem_cons_zero,Act.put,List.setIfInBounds_toArray,List.set_cons_zero,List.set_cons_succ]
      refine wpAnyH_take (i:=11) (v:=undef) rfl (by kernel_rfl) (by kernel_rfl) (by kernel_rfl) (fun _ _ _ h=>h) (.inr ⟨by kernel_rfl,rfl⟩) hS ?_
      simp only[List.getElem_toArray,List.getElem_cons_succ,List.getElem_cons_zero,Act.put,List.setIfInBounds_toArray,List.set_cons_zero,List.set_cons_succ]
      refine wpAnyH_take (i:=12) (v:=undef) rfl (by kernel_rfl) (by kernel_rfl) (by kernel_rfl) (fun _ _ _ h=>h) (.inr ⟨by kernel_rfl,rfl⟩) hS ?_
      simp only[List.getElem_toArray,List.getElem_cons_succ,List.getElem_cons_zero,Act.put,List.setIfInBounds_toArray,List.set_cons_zero,List.set_cons_succ]
      refine tkH 13 ?_ rfl (fun w' hS=>?_) hS ?_
      rotate_left
      ·
       skip
       go_simp
       try with_reducible rfl
      refine wpAnyH_done (by kernel_rfl) ?_ _
      clear hS
      go_wp2
      go_meet
      exact⟨_,rfl,fun h=>(by simp at h),hkd⟩
     ·obtain⟨s0,z0⟩:=tx_nth (hkd.out.kinds n h.out) (k+1) (by omega)
      obtain⟨s1,z1⟩:=tx_nth (hkd.out.kinds n h.out) k (by omega)
      have hkn:((k:Int)+1)<(n:Int):=by omega
      have hkn2:(k:Int)<(n:Int):=by omega
      have h01:(0:Int)≤(k:Int)+1:=by omega
      have h00:(0:Int)≤(k:Int):=by omega
      have hwk:IntKind.i64.wrap (k:Int)=(k:Int):=IntWalk.i64_in _ (by omega)
      refine wp_region_held_drew (S:=fun V=>V.cell? ⟨b,k+1,none⟩=some (.string s0)∧V.cell? ⟨b,k,none⟩=some (.string s1)) (by kernel_rfl) ⟨z0,z1⟩ (fun hS=>?_)
      generalize u.drew=V0 at *
      clear z0 z1
      refine tkS [0,1,2,3,4,5,6,7,8,9,10,11,12,13] ?_
      iterate 14
       refine tkC ?_ rfl (fun w' hS=>?_) hS ?_
       rotate_left
       ·
        have y0:=hS.1;have y1:=hS.2
        go_simp
        try with_reducible rfl
      refine wpAnyH_done (by kernel_rfl) ?_ _
      clear hS
      go_wp2
      go_meet
      exact⟨_,rfl,fun _=>Nat.succ_pos k,hkd⟩
    case rest=>
     obtain⟨q,rfl,hq,hk3⟩:=hcut
     clear hk2
     cases q
     ·clear hq
      go_wp2
      go_roundw
      case rel=>exact⟨i+1,by omega,by go_num,hk3⟩
      case measure=>simp[intOf];omega
     ·have hk0:=hq rfl
      clear hq
      obtain⟨k,rfl⟩:∃k',k=k'+1:=⟨k-1,by omega⟩
      obtain⟨s0,z0⟩:=tx_nth (hk3.out.kinds n h.out) (k+1) (by omega)
      obtain⟨s1,z1⟩:=tx_nth (hk3.out.kinds n h.out) k (by omega)
      have hkn:((k:Int)+1)<(n:Int):=by omega
      have hkn2:(k:Int)<(n:Int):=by omega
      have h01:(0:Int)≤(k:Int)+1:=by omega
      have h00:(0:Int)≤(k:Int):=by omega
      have hwk:IntKind.i64.wrap (k:Int)=(k:Int):=IntWalk.i64_in _ (by omega)
      have f1:=(hk3.out.kinds n h.out).free (k+1)
      have hkA:Hid (KMv TxK 9 b w (wc.setCell ⟨b,k+1,none⟩ (.string s1))):=Hd (hk3.out.set ⟨s1,rfl⟩)
      clear hk3
      go_upto_region 8 with fail
      clear z0 z1 f1
      generalize wc.setCell ⟨b,k+1,none⟩ (.string s1)=u2 at *
      obtain⟨s2,z1⟩:=tx_nth (hkA.out.kinds n h.out) k (by omega)
      have f2:=(hkA.out.kinds n h.out).free k
      have hkB:Hid (KMv TxK 9 b w (u2.setCell ⟨b,k,none⟩ (.string s0))):=Hd (hkA.out.set ⟨s0,rfl⟩)
      clear hkA
      go_wp2
      go_roundw
      case rel=>exact⟨k,by omega,by go_num,hkB⟩
      case measure=>simp[intOf]
  ·have hii:¬(i:Int)<(n:Int):=by omega
   go_wp2
   go_end0
   exact⟨rfl,hk.out⟩
theorem sortTexts_gs(B:Nat)(w:World)(v:Value)(hB:B≤w.heap.size)(h:LabS B w v):Calls Tryz.prog 32 #[v] w fun e w'=>e=.returned (.tuple #[])∧GO B w w':=by
 obtain⟨a,n,c,rfl,hn,h⟩:=h
 rcases Nat.eq_zero_or_pos n with rfl|hp
 ·clear h
  go_enter Tryz.func32,Tryz.ntmps32
  go_wp2
  go_loopw [2] (fun i wr=>i=.int .i64 1∧wr=w) (fun i _=>0)
  case atStart=>exact⟨rfl,rfl⟩
  case round=>
   obtain⟨rfl,rfl⟩:=hrel
   go_wp2
   go_end0
   exact⟨rfl,GO.refl _ _⟩
 ·obtain⟨g,rfl,hg,hr⟩:=h hp
  refine(sortTexts_any w g n c hn hr).mono ?_
  rintro e w' ⟨rfl,hk⟩
  obtain⟨cs,hq,-⟩:=id hr
  exact⟨rfl,GO.texts hB hg ⟨cs,hq⟩ hk⟩
end Go.Proofs.YtcaeipdgbaligaaGreatDoor.ex
set_option linter.unusedSimpArgs false
set_option linter.unusedVariables false
set_option maxHeartbeats 4000000
namespace Go.Proofs.YtcaeipdgbaligaaGreatDoor.ex
open Go.ChangeShapes Go.WideShapes Go.ChangeAt Go.RowKit kit dec val tab
set_option maxRecDepth 100000
theorem pair_set{t:TypeId}{w0 w:World}{b:Nat}(h:KMv PairK t b w0 w)(k:Nat)(s:ByteArray)(i1:Int)(q:Bool)(i2:Int)(s1 s2:ByteArray)(a:Option Addr)(l c:Nat):KMv PairK t b w0 (((((((w.setCell ⟨b,k * 7,none⟩ (.string s)).setCell ⟨b,k * 7+1,none⟩ (.int .i64 i1)).setCell ⟨b,k * 7+2,none⟩ (.bool q)).setCell ⟨b,k * 7+3,none⟩ (.int .i64 i2)).setCell ⟨b,k * 7+4,none⟩ (.string s1)).setCell ⟨b,k * 7+5,none⟩ (.string s2)).setCell ⟨b,k * 7+6,none⟩ (.slice a l c)):=by
 refine KMv.set (KMv.set (KMv.set (KMv.set (KMv.set (KMv.set (KMv.set h ?_) ?_) ?_) ?_) ?_) ?_) ?_
 all_goals unfold PairK
 ·rw[show k * 7 % 7=0 by omega];exact⟨_,rfl⟩
 ·rw[show(k * 7+1) % 7=1 by omega];exact⟨_,rfl⟩
 ·rw[show(k * 7+2) % 7=2 by omega];exact⟨_,rfl⟩
 ·rw[show(k * 7+3) % 7=3 by omega];exact⟨_,rfl⟩
 ·rw[show(k * 7+4) % 7=4 by omega];exact⟨_,rfl⟩
 ·rw[show(k * 7+5) % 7=5 by omega];exact⟨_,rfl⟩
 ·rw[show(k * 7+6) % 7=6 by omega];exact⟨_,_,_,rfl⟩
def SpP(b:Nat)(w:World)(e:Ending)(w':World):Prop:=e=.returned (.tuple #[])∧KMv PairK 106 b w w'
theorem sortProps_any (w : World) (b n cap : Nat) (hn : n ≤ 1048576) (h : KRow PairK 106 w b (n * 7)) : Calls Tryz.prog 33 #[.slice (some ⟨b, 0, none⟩) n cap] w (SpP b w) := by
 have hni:(n:Int)≤1048576:=by omega
 replace h:=Hd h
 go_enter Tryz.func33,Tryz.ntmps33
 go_wp2
 go_loopw [2] (fun i wr=>∃k:Nat,k≤n+1∧i=.int .i64 (k:Int)∧Hid (KMv PairK 106 b w wr)) (fun i _=>n+1-(intOf i).toNat)
 case atStart=>exact⟨1,by omega,rfl,Hd (KMv.refl _ _ _ _)⟩
 case round =>
  obtain⟨i,hi,rfl,hk⟩:=hrel
  by_cases hlt:i<n
  ·have hii : (i : Int) < (n : Int) := by omega
   go_wp2
   go_loopw [3] (fun v wr2=>∃k:Nat,k≤i∧v=.int .i64 (k:Int)∧Hid (KMv PairK 106 b w wr2)) (fun v _=>(intOf v).toNat)
   case atStart=>exact⟨i,by omega,rfl,hk⟩
   case round =>
    obtain⟨k,hki,rfl,hk2⟩:=hrel
    obtain⟨u,rfl⟩:∃u:World,u=wr:=⟨_,rfl⟩
    clear hk
    go_upto_region 4 with fail
    go_cut [27] from 12 to 46 (fun c wx=>∃q,c=.bool q∧(q=true→0<k)∧Hid (KMv PairK 106 b w wx))
    case first=>
     have hkd:Hid (KMv PairK 106 b w u.drew):=Hd (hk2.out.drewN 1)
     rcases k with _|k
     ·refine wp_region_held_drew (S:=fun V=>True) (by kernel_rfl) trivial (fun hS=>?_)
      generalize u.drew=V0 at *
      refine tkS [0,1,2] ?_
      iterate 3
       refine tkC ?_ rfl (fun w' hS=>?_) hS ?_
       rotate_left
       ·
        skip
        go_simp
        try with_reducible rfl
      refine wpAnyH_take (i:=3) (v:=undef) rfl (by kernel_rfl) (by kernel_rfl) (by kernel_rfl) (fun _ _ _ h=>h) (.inr ⟨by kernel_rfl,rfl⟩) hS ?_
      simp only[List.getElem_toArray,List.getElem_cons_succ,List.getElem_cons_zero,Act.put,List.setIfInBounds_toArray,List.set_cons_zero,List.set_cons_succ]
      refine wpAnyH_take (i:=4) (v:=undef) rfl (by kernel_rfl) (by kernel_rfl) (by kernel_rfl) (fun _ _ _ h=>h) (.inr ⟨by kernel_rfl,rfl⟩) hS ?_
      simp only[List.getElem_toArray,List.getElem_cons_succ,List.getElem_cons_zero,Act.put,List.setIfInBounds_toArray,List.set_cons_zero,List.set_cons_succ]
      refine wpAnyH_take (i:=5) (v:=undef) rfl (by kernel_rfl) (by kernel_rfl) (by kernel_rfl) (fun _ _ _ h=>h) (.inr ⟨by kernel_rfl,rfl⟩) hS ?_
      simp only[List.getElem_toArray,List.getElem_cons_succ,List.getElem_cons_zero,Act.put,List.setIfInBounds_toArray,List.set_cons_zero,List.set_cons_succ]
      refine wpAnyH_take (i:=6) (v:=undef) rfl (by kernel_rfl) (by kernel_rfl) (by kernel_rfl) (fun _ _ _ h=>h) (.inr ⟨by kernel_rfl,rfl⟩) hS ?_
      simp only[List.getElem_toArray,List.getElem_cons_succ,List.getElem_cons_zero,Act.put,List.setIfInBounds_toArray,List.set_cons_zero,List.set_cons_succ]
      refine wpAnyH_take (i:=7) (v:=undef) rfl (by kernel_rfl) (by kernel_rfl) (by kernel_rfl) (fun _ _ _ h=>h) (.inr ⟨by kernel_rfl,rfl⟩) hS ?_
      simp only[List.getElem_toArray,List.getElem_cons_succ,List.getElem_cons_zero,Act.put,List.setIfInBounds_toArray,List.set_cons_zero,List.set_cons_succ]
      refine wpAnyH_take (i:=8) (v:=undef) rfl (by kernel_rfl) (by kernel_rfl) (by kernel_rfl) (fun _ _ _ h=>h) (.inr ⟨by kernel_rfl,rfl⟩) hS ?_
      simp only[List.getElem_toArray,List.getElem_cons_succ,List.getElem_cons_zero,Act.put,List.setIfInBounds_toArray,List.set_cons_zero,List.set_cons_succ]
      refine wpAnyH_take (i:=9) (v:=undef) rfl (by kernel_rfl) (by kernel_rfl) (by kernel_rfl) (fun _ _ _ h=>h) (.inr ⟨by kernel_rfl,rfl⟩) hS ?_
      simp only[List.getElem_toArray,List.getElem_cons_succ,List.getElem_cons_zero,Act.put,List.setIfInBounds_toArray,List.set_cons_zero,List.set_cons_succ]
      refine wpAnyH_take (i:=10) (v:=undef) rfl (by kernel_rfl) (by kernel_rfl) (by kernel_rfl) (fun _ _ _ h=>h) (.inr ⟨by kernel_rfl,rfl⟩) hS ?_
      simp only[List.getElem_toArray,List.getElem_cons_succ,List.getElem_cons_zero,Act.put,List.setIfInBounds_toArray,List.set_cons_zero,List.set_cons_succ]
      refine wpAnyH_take (i:=11) (v:=undef) rfl (by kernel_rfl) (by kernel_rfl) (by kernel_rfl) (fun _ _ _ h=>h) (.inr ⟨by kernel_rfl,rfl⟩) hS ?_
      simp only[List.getElem_toArray,List.getElem_cons_succ,List.getElem_cons_zero,Act.put,List.setIfInBounds_toArray,List.set_cons_zero,List.set_cons_succ]
      refine wpAnyH_take (i:=12) (v:=undef) rfl (by kernel_rfl) (by kernel_rfl) (by kernel_rfl) (fun _ _ _ h=>h) (.inr ⟨by kernel_rfl,rfl⟩) hS ?_
      simp only[List.getElem_toArray,List.getElem_cons_succ,List.getElem_cons_zero,Act.put,List.setIfInBounds_toArray,List.set_cons_zero,List.set_cons_succ]
      refine wpAnyH_take (i:=13) (v:=undef) rfl (by kernel_rfl) (by kernel_rfl) (by kernel_rfl) (fun _ _ _ h=>h) (.inr ⟨by kernel_rfl,rfl⟩) hS ?_
      simp only[List.getElem_toArray,List.getElem_cons_succ,List.getElem_cons_zero,Act.put,List.setIfInBounds_toArray,List.set_cons_zero,List.set_cons_succ]
      refine wpAnyH_take (i:=14) (v:=undef) rfl (by kernel_rfl) (by kernel_rfl) (by kernel_rfl) (fun _ _ _ h=>h) (.inr ⟨by kernel_rfl,rfl⟩) hS ?_
      simp only[List.getElem_toArray,List.getElem_cons_succ,List.getElem_cons_zero,Act.put,List.setIfInBounds_toArray,List.set_cons_zero,List.set_cons_succ]
      refine tkH 15 ?_ rfl (fun w' hS=>?_) hS ?_
      rotate_left
      ·
       skip
       go_simp
       try with_reducible rfl
      refine wpAnyH_done (by kernel_rfl) ?_ _
      clear hS
      go_wp2
      go_meet
      exact⟨_,rfl,fun h=>(by simp at h),hkd⟩
     ·obtain⟨s0,_,_,_,_,_,_,_,_,z0,-⟩:=pair_cells (hkd.out.kinds _ h.out) (k+1) (by omega)
      obtain⟨s1,_,_,_,_,_,_,_,_,z1,-⟩:=pair_cells (hkd.out.kinds _ h.out) k (by omega)
      have hkn:((k:Int)+1)<(n:Int):=by omega
      have hkn2:(k:Int)<(n:Int):=by omega
      have h01:(0:Int)≤(k:Int)+1:=by omega
      have h00:(0:Int)≤(k:Int):=by omega
      have hwk:IntKind.i64.wrap (k:Int)=(k:Int):=IntWalk.i64_in _ (by omega)
      refine wp_region_held_drew (S:=fun V=>V.cell? ⟨b,(k+1) * 7,none⟩=some (.string s0)∧V.cell? ⟨b,k * 7,none⟩=some (.string s1)) (by kernel_rfl) ⟨z0,z1⟩ (fun hS=>?_)
      generalize u.drew=V0 at *
      clear z0 z1
      refine tkS [0,1,2,3,4,5,6,7,8,9,10,11,12,13,14,15] ?_
      iterate 16
       refine tkC ?_ rfl (fun w' hS=>?_) hS ?_
       rotate_left
       ·
        have y0:=hS.1;have y1:=hS.2
        go_simp
        try with_reducible rfl
      refine wpAnyH_done (by kernel_rfl) ?_ _
      clear hS
      go_wp2
      go_meet
      exact⟨_,rfl,fun _=>Nat.succ_pos k,hkd⟩
    case rest=>
     obtain⟨q,rfl,hq,hk3⟩:=hcut
     clear hk2
     cases q
     ·clear hq
      go_wp2
      go_roundw
      case rel=>exact⟨i+1,by omega,by go_num,hk3⟩
      case measure=>simp[intOf];omega
     ·have hk0:=hq rfl
      clear hq
      obtain⟨k,rfl⟩:∃k',k=k'+1:=⟨k-1,by omega⟩
      obtain⟨sA,a1,aq,a2,a3,a4,aa,al,ac,x0,x1,x2,x3,x4,x5,x6⟩:=pair_cells (hk3.out.kinds _ h.out) (k+1) (by omega)
      have hkn:((k:Int)+1)<(n:Int):=by omega
      have hkn2:(k:Int)<(n:Int):=by omega
      have h01:(0:Int)≤(k:Int)+1:=by omega
      have h00:(0:Int)≤(k:Int):=by omega
      have hwk:IntKind.i64.wrap (k:Int)=(k:Int):=IntWalk.i64_in _ (by omega)
      obtain⟨U,hU⟩:∃U,wc.alloc (.cells #[.string sA,.int .i64 a1,.bool aq,.int .i64 a2,.string a3,.string a4,.slice aa al ac] 106)=U:=⟨_,rfl⟩
      have hal:Below wc.heap.size wc U:=by rw[←hU];exact(Below.refl _ _).alloc (Nat.le_refl _) _
      have hbx:Blk U wc.heap.size #[.string sA,.int .i64 a1,.bool aq,.int .i64 a2,.string a3,.string a4,.slice aa al ac] 106:=by rw[←hU];exact Blk.new _ _ _
      have hbw:wc.heap.size≠b:=by
       have:=(hk3.out.kinds _ h.out).lt
       omega
      have hkU:Hid (KMv PairK 106 b w U):=by rw[←hU];exact Hd (hk3.out.alloc h.out.lt _)
      replace hU:=Hd hU
      replace hbx:=Hd hbx
      clear hal hk3
      go_upto_region 7 with fail
      rw[hU.out]
      clear x0 x1 x2 x3 x4 x5 x6
      obtain⟨sB,b1,bq,b2,b3,b4,ba,bl,bc,x0,x1,x2,x3,x4,x5,x6⟩:=pair_cells (hkU.out.kinds _ h.out) k (by omega)
      have f1:=(hkU.out.kinds _ h.out).free
      obtain⟨_,_,_,_,_,_,_,_,_,y0,y1,y2,y3,y4,y5,y6⟩:=pair_cells (hkU.out.kinds _ h.out) (k+1) (by omega)
      have hkA:=Hd (pair_set hkU.out (k+1) sB b1 bq b2 b3 b4 ba bl bc)
      have hkB:=Hd (pair_set (KMv.refl PairK 106 b U) (k+1) sB b1 bq b2 b3 b4 ba bl bc)
      go_upto_region 8 with fail
      clear x0 x1 x2 x3 x4 x5 x6 y0 y1 y2 y3 y4 y5 y6 f1
      obtain⟨u2,hu2⟩:∃u2,(((((((U.setCell ⟨b,(k+1) * 7,none⟩ (.string sB)).setCell ⟨b,(k+1) * 7+1,none⟩ (.int .i64 b1)).setCell ⟨b,(k+1) * 7+2,none⟩ (.bool bq)).setCell ⟨b,(k+1) * 7+3,none⟩ (.int .i64 b2)).setCell ⟨b,(k+1) * 7+4,none⟩ (.string b3)).setCell ⟨b,(k+1) * 7+5,none⟩ (.string b4)).setCell ⟨b,(k+1) * 7+6,none⟩ (.slice ba bl bc))=u2:=⟨_,rfl⟩
      rw[hu2]at hkA hkB
      rw[hu2]
      have hbx2:=hbx.out.keep hkB.out.keep (by simpa using hbw)
      have v0:=hbx2.cell 0 rfl
      have v1:=hbx2.cell 1 rfl
      have v2:=hbx2.cell 2 rfl
      have v3:=hbx2.cell 3 rfl
      have v4:=hbx2.cell 4 rfl
      have v5:=hbx2.cell 5 rfl
      have v6:=hbx2.cell 6 rfl
      obtain⟨_,_,_,_,_,_,_,_,_,y0,y1,y2,y3,y4,y5,y6⟩:=pair_cells (hkA.out.kinds _ h.out) k (by omega)
      have f2:=(hkA.out.kinds _ h.out).free
      have hkC:=Hd (pair_set hkA.out k sA a1 aq a2 a3 a4 aa al ac)
      replace hu2:=Hd hu2
      clear hkA hkB hbx2 hkU hbx
      go_wp2
      go_roundw
      case rel=>exact⟨k,by omega,by go_num,hkC⟩
      case measure=>simp[intOf]
  ·have hii:¬(i:Int)<(n:Int):=by omega
   go_wp2
   go_end0
   exact⟨rfl,hk.out⟩
theorem sortProps_gs(B:Nat)(w:World)(v:Value)(hB:B≤w.heap.size)(h:PrpS B w v):Calls Tryz.prog 33 #[v] w fun e w'=>e=.returned (.tuple #[])∧GO B w w':=by
 obtain⟨a,n,c,rfl,hn,h⟩:=h
 rcases Nat.eq_zero_or_pos n with rfl|hp
 ·clear h
  go_enter Tryz.func33,Tryz.ntmps33
  go_wp2
  go_loopw [2] (fun i wr=>i=.int .i64 1∧wr=w) (fun i _=>0)
  case atStart=>exact⟨rfl,rfl⟩
  case round=>
   obtain⟨rfl,rfl⟩:=hrel
   go_wp2
   go_end0
   exact⟨rfl,GO.refl _ _⟩
 ·obtain⟨g,rfl,hg,hr⟩:=h hp
  refine(sortProps_any w g n c hn hr).mono ?_
  rintro e w' ⟨rfl,hk⟩
  obtain⟨cs,hq,-⟩:=id hr
  exact⟨rfl,GO.pairs hB hg ⟨cs,hq⟩ hk⟩
end Go.Proofs.YtcaeipdgbaligaaGreatDoor.ex
