/- Texts StabP, StabW, StabIns, StabRot, one behind the other. -/
import Derived.Test.YtidplkfhodpdhaaGreatDoorVOrd2A
import Derived.Test.YtidplkfhodpdhaaGreatDoorOvA
set_option linter.unusedSimpArgs false
set_option linter.unusedVariables false
set_option maxRecDepth 100000
set_option maxHeartbeats 4000000
namespace Go.Proofs.YtidplkfhodpdhaaGreatDoor.stab
structure OLaw{α:Type}(o:α→α→Int):Prop where
 neg:∀x y,o y x=- o x y
 le:∀x y z,o x y≤0→o y z≤0→o x z≤0
section
variable{α:Type}{o:α→α→Int}
theorem OLaw.self(h:OLaw o)(x:α):o x x=0:=by have:=h.neg x x;omega
theorem OLaw.eqt(h:OLaw o){x y z:α}(h1:o x y=0)(h2:o y z=0):o x z=0:=by
 have a:=h.le x y z (by omega) (by omega)
 have b1:=h.neg y z
 have b2:=h.neg x y
 have b:=h.le z y x (by omega) (by omega)
 have b3:=h.neg x z
 omega
theorem OLaw.lt_le(h:OLaw o){x y z:α}(h1:o x y<0)(h2:o y z≤0):o x z<0:=by
 by_cases hc:o x z<0
 ·exact hc
 ·have b:=h.neg x z
  have c:=h.le y z x h2 (by omega)
  have d:=h.neg x y
  omega
theorem OLaw.le_lt(h:OLaw o){x y z:α}(h1:o x y≤0)(h2:o y z<0):o x z<0:=by
 by_cases hc:o x z<0
 ·exact hc
 ·have b:=h.neg x z
  have c:=h.le z x y (by omega) h1
  have d:=h.neg y z
  omega
def Srt(o:α→α→Int)(l:List α):Prop:=l.Pairwise (fun x y=>o x y≤0)
def Cls(o:α→α→Int)(l m:List α):Prop:=∀c,l.filter (fun z=>decide (o z c=0))=m.filter (fun z=>decide (o z c=0))
theorem Cls.refl(l:List α):Cls o l l:=fun _=>rfl
theorem Cls.symm{l m:List α}(h:Cls o l m):Cls o m l:=fun c=>(h c).symm
theorem Cls.trans{l m k:List α}(h:Cls o l m)(h2:Cls o m k):Cls o l k:=fun c=>(h c).trans (h2 c)
theorem Cls.app{l m l2 m2:List α}(h:Cls o l m)(h2:Cls o l2 m2):Cls o (l++l2) (m++m2):=fun c=>by
 rw[List.filter_append,List.filter_append,h c,h2 c]
theorem Cls.mem(h:OLaw o){l m:List α}(hc:Cls o l m){z:α}(hz:z∈l):z∈m:=by
 have h1:z∈l.filter (fun y=>decide (o y z=0)):=List.mem_filter.2 ⟨hz,decide_eq_true (h.self z)⟩
 rw[hc z]at h1
 exact(List.mem_filter.1 h1).1
theorem filter_none{p:α→Bool}{l:List α}(h:∀x∈l,p x=false):l.filter p=[]:=by
 rw[List.filter_eq_nil_iff]
 intro x hx
 rw[h x hx]
 decide
theorem Cls.swap(h:OLaw o){A B:List α}(hn:∀x∈A,∀y∈B,o x y≠0):Cls o (A++B) (B++A):=fun c=>by
 rw[List.filter_append,List.filter_append]
 by_cases ha:∃x∈A,o x c=0
 ·obtain⟨x,hx,hxc⟩:=ha
  have hb:B.filter (fun z=>decide (o z c=0))=[]:=filter_none fun y hy=>decide_eq_false fun hyc=>by
   have h1:=h.neg y c
   exact hn x hx y hy (h.eqt hxc (by omega))
  rw[hb,List.append_nil,List.nil_append]
 ·have hA:A.filter (fun z=>decide (o z c=0))=[]:=filter_none fun x hx=>decide_eq_false fun hxc=>ha ⟨x,hx,hxc⟩
  rw[hA,List.append_nil,List.nil_append]
theorem uniq(h:OLaw o):∀(l m:List α),Srt o l→Srt o m→Cls o l m→l=m
 |[],[],_,_,_=>rfl
 |[],y::m,_,_,hc=>by have:=hc.symm.mem h (z:=y) (by simp);simp at this
 |x::l,[],_,_,hc=>by have:=hc.mem h (z:=x) (by simp);simp at this
 | x :: l, y :: m, hl, hm, hc => by
  have hl':=List.pairwise_cons.1 hl
  have hm':=List.pairwise_cons.1 hm
  have h1:o y x≤0:=by
   rcases List.mem_cons.1 (hc.mem h (z:=x) (by simp)) with e|e
   ·rw[e,h.self];omega
   ·exact hm'.1 x e
  have h2:o x y≤0:=by
   rcases List.mem_cons.1 (hc.symm.mem h (z:=y) (by simp)) with e|e
   ·rw[e,h.self];omega
   ·exact hl'.1 y e
  have hn:=h.neg x y
  have hyx:o y x=0:=by omega
  have hx:=hc x
  rw[List.filter_cons_of_pos (by simpa using h.self x),List.filter_cons_of_pos (by simpa using hyx)]at hx
  injection hx with e1 e2
  subst e1
  rw[uniq h l m hl'.2 hm'.2 (fun c=>?_)]
  have h3:=hc c
  by_cases hcc:o x c=0
  ·rw[List.filter_cons_of_pos (by simpa using hcc),List.filter_cons_of_pos (by simpa using hcc)]at h3
   injection h3
  ·rw[List.filter_cons_of_neg (by simpa using hcc),List.filter_cons_of_neg (by simpa using hcc)]at h3
   exact h3
theorem Srt.app{l m:List α}(hl:Srt o l)(hm:Srt o m)(h:∀x∈l,∀y∈m,o x y≤0):Srt o (l++m):=List.pairwise_append.2 ⟨hl,hm,h⟩
theorem Srt.parts{l m:List α}(h:Srt o (l++m)):Srt o l∧Srt o m∧∀x∈l,∀y∈m,o x y≤0:=List.pairwise_append.1 h
theorem ins(h:OLaw o){A B:List α}{x:α}(hs:Srt o (A++B))(hA:∀y∈A,o y x≤0)(hB:∀y∈B,o x y<0):Srt o (A++([x]++B))∧Cls o (A++([x]++B)) (A++(B++[x])):=by
 obtain⟨h1,h2,h3⟩:=hs.parts
 refine⟨h1.app (Srt.app (List.pairwise_singleton _ _) h2 fun z hz y hy=>?_) fun z hz y hy=>?_,(Cls.refl A).app (Cls.swap h fun z hz y hy=>?_)⟩
 ·rw[List.mem_singleton.1 hz];have:=hB y hy;omega
 ·rcases List.mem_append.1 hy with hy|hy
  ·rw[List.mem_singleton.1 hy];exact hA z hz
  ·exact h3 z hz y hy
 ·rw[List.mem_singleton.1 hz];have:=hB y hy;omega
theorem halves(h:OLaw o){A1 A2 B1 B2 M1 M2:List α}(hA:Srt o (A1++A2))(hB:Srt o (B1++B2))(h1:∀x∈A1,∀y∈B2,o x y≤0)(h2:∀x∈B1,∀y∈A2,o x y<0)
 (s1:Srt o M1)(c1:Cls o M1 (A1++B1))(s2:Srt o M2)(c2:Cls o M2 (A2++B2)):Srt o (M1++M2)∧Cls o (M1++M2) (A1++A2++(B1++B2)):=by
 obtain⟨-,-,a3⟩:=hA.parts
 obtain⟨-,-,b3⟩:=hB.parts
 refine⟨s1.app s2 fun x hx y hy=>?_,(c1.app c2).trans ?_⟩
 ·have hx':=c1.mem h hx
  have hy':=c2.mem h hy
  rcases List.mem_append.1 hx' with hx'|hx'
  ·rcases List.mem_append.1 hy' with hy'|hy'
   ·exact a3 x hx' y hy'
   ·exact h1 x hx' y hy'
  ·rcases List.mem_append.1 hy' with hy'|hy'
   ·have:=h2 x hx' y hy';omega
   ·exact b3 x hx' y hy'
 ·have e1:A1++B1++(A2++B2)=A1++((B1++A2)++B2):=by simp
  have e2:A1++A2++(B1++B2)=A1++((A2++B1)++B2):=by simp
  rw[e1,e2]
  exact(Cls.refl A1).app ((Cls.swap h fun x hx y hy=>by have:=h2 x hx y hy;omega).app (Cls.refl B2))
def seg(f:Nat→α)(a b:Nat):List α:=(List.range' a (b-a)).map f
theorem seg_nil{f:Nat→α}{a b:Nat}(h:b≤a):seg f a b=[]:=by unfold seg;rw[Nat.sub_eq_zero_of_le h];rfl
theorem seg_app{f:Nat→α}{a m b:Nat}(h1:a≤m)(h2:m≤b):seg f a b=seg f a m++seg f m b:=by
 unfold seg
 rw[←List.map_append]
 congr 1
 rw[show b-a=(m-a)+(b-m) by omega,←List.range'_append_1,show a+(m-a)=m by omega]
theorem seg_one(f:Nat→α)(a:Nat):seg f a (a+1)=[f a]:=by unfold seg;rw[show a+1-a=1 by omega];rfl
theorem seg_len(f:Nat→α)(a b:Nat):(seg f a b).length=b-a:=by unfold seg;simp
theorem mem_seg{f:Nat→α}{a b:Nat}{x:α}:x∈seg f a b↔∃j,a≤j∧j<b∧f j=x:=by
 unfold seg
 rw[List.mem_map]
 constructor
 ·rintro⟨j,hj,e⟩
  rw[List.mem_range'_1]at hj
  exact⟨j,hj.1,by omega,e⟩
 ·rintro⟨j,h1,h2,e⟩
  exact⟨j,List.mem_range'_1.2 ⟨h1,by omega⟩,e⟩
theorem seg_move{f g:Nat→α}{a b n:Nat}(h:∀j,j<n→f (a+j)=g (b+j)):seg f a (a+n)=seg g b (b+n):=by
 unfold seg
 rw[show a+n-a=n by omega,show b+n-b=n by omega,List.range'_eq_map_range,List.range'_eq_map_range,List.map_map,List.map_map]
 apply List.map_congr_left
 intro j hj
 exact h j (List.mem_range.1 hj)
theorem seg_congr{f g:Nat→α}{a b:Nat}(h:∀j,a≤j→j<b→f j=g j):seg f a b=seg g a b:=by
 unfold seg
 apply List.map_congr_left
 intro j hj
 rw[List.mem_range'_1]at hj
 exact h j hj.1 (by omega)
theorem seg_get{f:Nat→α}{a b k:Nat}(h:k<(seg f a b).length):(seg f a b)[k]=f (a+k):=by
 have h2:k<((List.range' a (b-a)).map f).length:=h
 have e:((List.range' a (b-a)).map f)[k]'h2=f (a+k):=by simp
 exact e
theorem srt_seg{f:Nat→α}{a b:Nat}:Srt o (seg f a b)↔∀i j,a≤i→i<j→j<b→o (f i) (f j)≤0:=by
 unfold Srt
 rw[List.pairwise_iff_getElem]
 constructor
 ·intro h i j h1 h2 h3
  have:=h (i-a) (j-a) (by rw[seg_len];omega) (by rw[seg_len];omega) (by omega)
  rw[seg_get,seg_get,show a+(i-a)=i by omega,show a+(j-a)=j by omega]at this
  exact this
 ·intro h i j hi hj hij
  rw[seg_len]at hi hj
  rw[seg_get,seg_get]
  exact h _ _ (by omega) (by omega) (by omega)
theorem srt_le(h:OLaw o){f:Nat→α}{a b:Nat}(hs:Srt o (seg f a b)){i j:Nat}(h1:a≤i)(h2:i≤j)(h3:j<b):o (f i) (f j)≤0:=by
 by_cases e:i=j
 ·rw[e,h.self];omega
 ·exact srt_seg.1 hs i j h1 (by omega) h3
theorem parted(h:OLaw o){f:Nat→α}{a m b s e:Nat}(hA:Srt o (seg f a m))(hB:Srt o (seg f m b))(h1:a≤s)(h2:s≤m)(h3:m≤e)(h4:e≤b)
 (c1:a<s→e<b→o (f (s-1)) (f e)≤0)(c2:s<m→m<e→o (f (e-1)) (f s)<0):
 (∀x∈seg f a s,∀y∈seg f e b,o x y≤0)∧∀x∈seg f m e,∀y∈seg f s m,o x y<0:=by
 constructor
 ·intro x hx y hy
  obtain⟨i,i1,i2,rfl⟩:=mem_seg.1 hx
  obtain⟨j,j1,j2,rfl⟩:=mem_seg.1 hy
  have k1:=srt_le h hA i1 (show i≤s-1 by omega) (by omega)
  have k2:=srt_le h hB (show m≤e by omega) j1 j2
  exact h.le _ _ _ k1 (h.le _ _ _ (c1 (by omega) (by omega)) k2)
 ·intro x hx y hy
  obtain⟨i,i1,i2,rfl⟩:=mem_seg.1 hx
  obtain⟨j,j1,j2,rfl⟩:=mem_seg.1 hy
  have k1:=srt_le h hB i1 (show i≤e-1 by omega) (by omega)
  have k2:=srt_le h hA (show a≤s by omega) j1 j2
  exact h.le_lt k1 (h.lt_le (c2 (by omega) (by omega)) k2)
def shiftF(f:Nat→α)(i j:Nat)(k:Nat):α:=if k<j then f k else if k=j then f i else if k≤i then f (k-1) else f k
def swapF(f:Nat→α)(i j:Nat)(k:Nat):α:=if k=i then f j else if k=j then f i else f k
theorem shift_self(f:Nat→α)(i k:Nat):shiftF f i i k=f k:=by
 unfold shiftF
 by_cases h:k<i
 ·rw[if_pos h]
 ·rw[if_neg h]
  by_cases h2:k=i
  ·rw[if_pos h2,h2]
  ·rw[if_neg h2,if_neg (by omega)]
theorem shift_swap(f:Nat→α){i j:Nat}(hj:0<j)(hi:j≤i)(k:Nat):swapF (shiftF f i j) j (j-1) k=shiftF f i (j-1) k:=by
 unfold swapF shiftF
 by_cases h1:k=j
 ·subst h1
  rw[if_pos rfl,if_pos (by omega),if_neg (by omega),if_neg (by omega),if_pos hi]
 ·rw[if_neg h1]
  by_cases h2:k=j-1
  ·subst h2
   rw[if_pos rfl,if_neg (by omega),if_pos rfl,if_neg (by omega),if_pos rfl]
  ·rw[if_neg h2]
   by_cases h3:k<j
   ·rw[if_pos h3,if_pos (by omega)]
   ·rw[if_neg h3,if_neg h1,if_neg (show ¬k<j-1 by omega),if_neg h2]
theorem shift_seg(f:Nat→α){a i j:Nat}(h1:a≤j)(h2:j≤i):seg (shiftF f i j) a (i+1)=seg f a j++([f i]++seg f j i):=by
 rw[seg_app h1 (show j≤i+1 by omega),seg_app (show j≤j+1 by omega) (show j+1≤i+1 by omega),seg_one]
 congr 1
 ·exact seg_congr fun k k1 k2=>by unfold shiftF;rw[if_pos k2]
 ·congr 1
  ·unfold shiftF;rw[if_neg (by omega),if_pos rfl]
  ·have:=seg_move (f:=shiftF f i j) (g:=f) (a:=j+1) (b:=j) (n:=i-j) (fun k hk=>by unfold shiftF;rw[if_neg (by omega),if_neg (by omega),if_pos (by omega)];congr 1;omega)
   rw[show j+1+(i-j)=i+1 by omega,show j+(i-j)=i by omega]at this
   exact this
theorem inserted(h:OLaw o){f:Nat→α}{a i j:Nat}(h1:a≤j)(h2:j≤i)(hs:Srt o (seg f a i))(hj:a<j→o (f (j-1)) (f i)≤0)(hb:∀k,j≤k→k<i→o (f i) (f k)<0):
 Srt o (seg (shiftF f i j) a (i+1))∧Cls o (seg (shiftF f i j) a (i+1)) (seg f a (i+1)):=by
 rw[shift_seg f h1 h2]
 have e:seg f a (i+1)=seg f a j++(seg f j i++[f i]):=by rw[seg_app (show a≤i by omega) (show i≤i+1 by omega),seg_one,seg_app h1 h2,List.append_assoc]
 rw[e]
 refine ins h (by rw[←seg_app h1 h2];exact hs) (fun y hy=>?_) (fun y hy=>?_)
 ·obtain⟨k,k1,k2,rfl⟩:=mem_seg.1 hy
  exact h.le _ _ _ (srt_le h hs k1 (show k≤j-1 by omega) (by omega)) (hj (by omega))
 ·obtain⟨k,k1,k2,rfl⟩:=mem_seg.1 hy
  exact hb k k1 k2
def rangeF(f:Nat→α)(a b n:Nat)(k:Nat):α:=if a≤k∧k<a+n then f (b+(k-a)) else if b≤k∧k<b+n then f (a+(k-b)) else f k
theorem range_zero(f:Nat→α)(a b k:Nat):rangeF f a b 0 k=f k:=by unfold rangeF;rw[if_neg (by omega),if_neg (by omega)]
theorem range_step(f:Nat→α){a b n:Nat}(h:a+n<b)(k:Nat):swapF (rangeF f a b n) (a+n) (b+n) k=rangeF f a b (n+1) k:=by
 unfold swapF rangeF
 by_cases h1:k=a+n
 ·subst h1
  rw[if_pos rfl,if_neg (by omega),if_neg (by omega),if_pos (by omega)]
  congr 1;omega
 ·rw[if_neg h1]
  by_cases h2:k=b+n
  ·subst h2
   rw[if_pos rfl,if_neg (by omega),if_neg (by omega),if_neg (by omega),if_pos (by omega)]
   congr 1;omega
  ·rw[if_neg h2]
   by_cases h3:a≤k∧k<a+n
   ·rw[if_pos h3,if_pos (by omega)]
   ·rw[if_neg h3,if_neg (show ¬(a≤k∧k<a+(n+1)) by omega)]
    by_cases h4:b≤k∧k<b+n
    ·rw[if_pos h4,if_pos (by omega)]
    ·rw[if_neg h4,if_neg (by omega)]
theorem range_left(f:Nat→α){a b n:Nat}(h:a+n≤b):seg (rangeF f a b n) a (a+n)=seg f b (b+n):=seg_move fun j hj=>by
 unfold rangeF
 rw[if_pos (by omega)]
 congr 1;omega
theorem range_right(f:Nat→α){a b n:Nat}(h:a+n≤b):seg (rangeF f a b n) b (b+n)=seg f a (a+n):=seg_move fun j hj=>by
 unfold rangeF
 rw[if_neg (by omega),if_pos (by omega)]
 congr 1;omega
theorem range_other(f:Nat→α){a b n c d:Nat}(h:∀k,c≤k→k<d→¬(a≤k∧k<a+n)∧¬(b≤k∧k<b+n)):seg (rangeF f a b n) c d=seg f c d:=seg_congr fun k k1 k2=>by
 unfold rangeF
 rw[if_neg (h k k1 k2).1,if_neg (h k k1 k2).2]
def RotI(f g:Nat→α)(a m b i j:Nat):Prop:=
 0<i∧0<j∧a+i≤m∧m+j≤b∧(∀k,¬(a≤k∧k<b)→g k=f k)∧seg g a (m-i)++(seg g m (m+j)++(seg g (m-i) m++seg g (m+j) b))=seg f m b++seg f a m
theorem rot_start(f:Nat→α){a m b:Nat}(h1:a<m)(h2:m<b):RotI f f a m b (m-a) (b-m):=by
 refine⟨by omega,by omega,by omega,by omega,fun _ _=>rfl,?_⟩
 rw[show m-(m-a)=a by omega,show m+(b-m)=b by omega,seg_nil (Nat.le_refl a),seg_nil (Nat.le_refl b),List.append_nil,List.nil_append]
theorem rot_more{f g:Nat→α}{a m b i j:Nat}(h:RotI f g a m b i j)(hij:j<i):RotI f (rangeF g (m-i) m j) a m b (i-j) j:=by
 obtain⟨h1,h2,h3,h4,h5,h6⟩:=h
 refine⟨by omega,h2,by omega,h4,fun k hk=>?_,?_⟩
 ·rw[←h5 k hk]
  unfold rangeF
  rw[if_neg (by omega),if_neg (by omega)]
 ·rw[←h6,show m-(i-j)=m-i+j by omega]
  rw[seg_app (f:=rangeF g (m-i) m j) (a:=a) (m:=m-i) (b:=m-i+j) (by omega) (by omega),range_left g (by omega),range_right g (by omega)]
  rw[range_other g (c:=a) (d:=m-i) (fun k k1 k2=>⟨by omega,by omega⟩),range_other g (c:=m-i+j) (d:=m) (fun k k1 k2=>⟨by omega,by omega⟩),range_other g (c:=m+j) (d:=b) (fun k k1 k2=>⟨by omega,by omega⟩)]
  rw[seg_app (f:=g) (a:=m-i) (m:=m-i+j) (b:=m) (by omega) (by omega)]
  simp only[List.append_assoc]
theorem rot_less{f g:Nat→α}{a m b i j:Nat}(h:RotI f g a m b i j)(hij:i<j):RotI f (rangeF g (m-i) (m+j-i) i) a m b i (j-i):=by
 obtain⟨h1,h2,h3,h4,h5,h6⟩:=h
 refine⟨h1,by omega,h3,by omega,fun k hk=>?_,?_⟩
 ·rw[←h5 k hk]
  unfold rangeF
  rw[if_neg (by omega),if_neg (by omega)]
 ·have e1:=range_left g (a:=m-i) (b:=m+j-i) (n:=i) (by omega)
  have e2:=range_right g (a:=m-i) (b:=m+j-i) (n:=i) (by omega)
  rw[show m-i+i=m by omega,show m+j-i+i=m+j by omega]at e1 e2
  rw[←h6,show m+(j-i)=m+j-i by omega]
  rw[seg_app (f:=rangeF g (m-i) (m+j-i) i) (a:=m+j-i) (m:=m+j) (b:=b) (by omega) (by omega),e1,e2]
  rw[range_other g (c:=a) (d:=m-i) (fun k k1 k2=>⟨by omega,by omega⟩),range_other g (c:=m) (d:=m+j-i) (fun k k1 k2=>⟨by omega,by omega⟩),range_other g (c:=m+j) (d:=b) (fun k k1 k2=>⟨by omega,by omega⟩)]
  rw[seg_app (f:=g) (a:=m) (m:=m+j-i) (b:=m+j) (by omega) (by omega)]
  simp only[List.append_assoc]
def Rot(f g:Nat→α)(a m b:Nat):Prop:=(∀k,¬(a≤k∧k<b)→g k=f k)∧seg g a b=seg f m b++seg f a m
theorem rot_end{f g:Nat→α}{a m b i:Nat}(h:RotI f g a m b i i):Rot f (rangeF g (m-i) m i) a m b:=by
 obtain⟨h1,h2,h3,h4,h5,h6⟩:=h
 refine⟨fun k hk=>?_,?_⟩
 ·rw[←h5 k hk]
  unfold rangeF
  rw[if_neg (by omega),if_neg (by omega)]
 ·have e1:=range_left g (a:=m-i) (b:=m) (n:=i) (by omega)
  have e2:=range_right g (a:=m-i) (b:=m) (n:=i) (by omega)
  rw[show m-i+i=m by omega]at e1 e2
  rw[←h6,seg_app (f:=rangeF g (m-i) m i) (a:=a) (m:=m-i) (b:=b) (by omega) (by omega),seg_app (f:=rangeF g (m-i) m i) (a:=m-i) (m:=m) (b:=b) (by omega) (by omega),seg_app (f:=rangeF g (m-i) m i) (a:=m) (m:=m+i) (b:=b) (by omega) (by omega),e1,e2]
  rw[range_other g (c:=a) (d:=m-i) (fun k k1 k2=>⟨by omega,by omega⟩),range_other g (c:=m+i) (d:=b) (fun k k1 k2=>⟨by omega,by omega⟩)]
theorem rot_none(f:Nat→α){a m b:Nat}(h1:a≤m)(h2:m≤b)(h:a=m∨m=b):Rot f f a m b:=by
 refine⟨fun _ _=>rfl,?_⟩
 rcases h with rfl|rfl
 ·rw[seg_nil (Nat.le_refl a),List.append_nil]
 ·rw[seg_nil (Nat.le_refl m),List.nil_append]
def Done(o:α→α→Int)(f g:Nat→α)(a b:Nat):Prop:=Srt o (seg g a b)∧Cls o (seg g a b) (seg f a b)∧∀k,¬(a≤k∧k<b)→g k=f k
theorem done_self{f:Nat→α}{a b:Nat}(h:Srt o (seg f a b)):Done o f f a b:=⟨h,Cls.refl _,fun _ _=>rfl⟩
theorem rot_parts{f g:Nat→α}{s m e:Nat}(h:Rot f g s m e)(h1:s≤m)(h2:m≤e):seg g s (s+(e-m))=seg f m e∧seg g (s+(e-m)) e=seg f s m:=by
 have h3:=h.2
 rw[seg_app (show s≤s+(e-m) by omega) (show s+(e-m)≤e by omega)]at h3
 exact List.append_inj h3 (by rw[seg_len,seg_len];omega)
theorem sym_join(h:OLaw o){f g g1 g2:Nat→α}{a m b s e mid:Nat}(hA:Srt o (seg f a m))(hB:Srt o (seg f m b))(h1:a≤s)(h2:s≤m)(h3:m≤e)(h4:e≤b)(hm:mid=s+(e-m))
 (c1:a<s→e<b→o (f (s-1)) (f e)≤0)(c2:s<m→m<e→o (f (e-1)) (f s)<0)(hr:Rot f g s m e)(d1:Done o g g1 a mid)(d2:Done o g1 g2 mid b):Done o f g2 a b:=by
 obtain⟨p1,p2⟩:=parted h hA hB h1 h2 h3 h4 c1 c2
 obtain⟨r1,r2⟩:=rot_parts hr h2 h3
 rw[←hm]at r1 r2
 have eA1:seg g a mid=seg f a s++seg f m e:=by
  rw[seg_app (show a≤s by omega) (show s≤mid by omega),r1]
  congr 1
  exact seg_congr fun k k1 k2=>hr.1 k (by omega)
 have eA2:seg g1 mid b=seg f s m++seg f e b:=by
  rw[seg_congr (g:=g) fun k k1 k2=>d1.2.2 k (by omega),seg_app (show mid≤e by omega) h4,r2]
  congr 1
  exact seg_congr fun k k1 k2=>hr.1 k (by omega)
 have c1':=d1.2.1
 rw[eA1]at c1'
 have c2':=d2.2.1
 rw[eA2]at c2'
 have eg:seg g2 a mid=seg g1 a mid:=seg_congr fun k k1 k2=>d2.2.2 k (by omega)
 have hj:=halves h (A1:=seg f a s) (A2:=seg f s m) (B1:=seg f m e) (B2:=seg f e b) (by rw[←seg_app h1 h2];exact hA) (by rw[←seg_app h3 h4];exact hB) p1 p2 d1.1 c1' d2.1 c2'
 have ef:seg f a b=seg f a s++seg f s m++(seg f m e++seg f e b):=by rw[←seg_app h1 h2,←seg_app h3 h4,←seg_app (show a≤m by omega) (show m≤b by omega)]
 refine⟨?_,?_,fun k hk=>?_⟩
 ·rw[seg_app (f:=g2) (show a≤mid by omega) (show mid≤b by omega),eg]
  exact hj.1
 ·rw[seg_app (f:=g2) (show a≤mid by omega) (show mid≤b by omega),eg,ef]
  exact hj.2
 ·rw[d2.2.2 k (by omega),d1.2.2 k (by omega),hr.1 k (by omega)]
theorem sym_runs{f g:Nat→α}{a m b s e mid:Nat}(hA:Srt o (seg f a m))(hB:Srt o (seg f m b))(h1:a≤s)(h2:s≤m)(h3:m≤e)(h4:e≤b)(hm:mid=s+(e-m))(hr:Rot f g s m e):
 Srt o (seg g a s)∧Srt o (seg g s mid)∧Srt o (seg g mid e)∧Srt o (seg g e b):=by
 obtain⟨r1,r2⟩:=rot_parts hr h2 h3
 rw[←hm]at r1 r2
 rw[seg_app h1 h2]at hA
 rw[seg_app h3 h4]at hB
 refine⟨?_,by rw[r1];exact hB.parts.1,by rw[r2];exact hA.parts.2.1,?_⟩
 ·rw[seg_congr (g:=f) fun k k1 k2=>hr.1 k (by omega)];exact hA.parts.1
 ·rw[seg_congr (g:=f) fun k k1 k2=>hr.1 k (by omega)];exact hB.parts.2.1
def upF(f:Nat→α)(a k:Nat)(j:Nat):α:=if j<a then f j else if j<k then f (j+1) else if j=k then f a else f j
theorem up_self(f:Nat→α)(a j:Nat):upF f a a j=f j:=by
 unfold upF
 by_cases h:j<a
 ·rw[if_pos h]
 ·rw[if_neg h,if_neg h]
  by_cases h2:j=a
  ·rw[if_pos h2,h2]
  ·rw[if_neg h2]
theorem up_swap(f:Nat→α){a k:Nat}(h:a≤k)(j:Nat):swapF (upF f a k) k (k+1) j=upF f a (k+1) j:=by
 unfold swapF upF
 by_cases h1:j=k
 ·subst h1
  rw[if_pos rfl,if_neg (by omega),if_neg (by omega),if_neg (by omega),if_neg (by omega),if_pos (by omega)]
 ·rw[if_neg h1]
  by_cases h2:j=k+1
  ·subst h2
   rw[if_pos rfl,if_neg (by omega),if_neg (by omega),if_pos rfl,if_neg (by omega),if_neg (by omega),if_pos rfl]
  ·rw[if_neg h2]
   by_cases h3:j<a
   ·rw[if_pos h3,if_pos h3]
   ·rw[if_neg h3,if_neg h3]
    by_cases h4:j<k
    ·rw[if_pos h4,if_pos (by omega)]
    ·rw[if_neg h4,if_neg h1,if_neg (show ¬j<k+1 by omega),if_neg h2]
theorem up_done(h:OLaw o){f:Nat→α}{a b i:Nat}(h1:a+1≤i)(h2:i≤b)(hB:Srt o (seg f (a+1) b))(c1:a+1<i→o (f (i-1)) (f a)<0)(c2:i<b→¬o (f i) (f a)<0):Done o f (upF f a (i-1)) a b:=by
 have e:seg (upF f a (i-1)) a b=seg f (a+1) i++([f a]++seg f i b):=by
  rw[seg_app (show a≤i-1 by omega) (show i-1≤b by omega),seg_app (show i-1≤i by omega) h2]
  congr 1
  ·have:=seg_move (f:=upF f a (i-1)) (g:=f) (a:=a) (b:=a+1) (n:=i-1-a) (fun j hj=>by unfold upF;rw[if_neg (by omega),if_pos (by omega)];congr 1;omega)
   rw[show a+(i-1-a)=i-1 by omega,show a+1+(i-1-a)=i by omega]at this
   exact this
  ·congr 1
   ·have e2:=seg_one (upF f a (i-1)) (i-1)
    rw[show i-1+1=i by omega]at e2
    rw[e2]
    unfold upF
    rw[if_neg (by omega),if_neg (by omega),if_pos rfl]
   ·exact seg_congr fun k k1 k2=>by unfold upF;rw[if_neg (by omega),if_neg (by omega),if_neg (by omega)]
 have hlt:∀x∈seg f (a+1) i,o x (f a)<0:=fun x hx=>by
  obtain⟨k,k1,k2,rfl⟩:=mem_seg.1 hx
  exact h.le_lt (srt_le h hB k1 (show k≤i-1 by omega) (by omega)) (c1 (by omega))
 have hge:∀x∈seg f i b,o (f a) x≤0:=fun x hx=>by
  obtain⟨k,k1,k2,rfl⟩:=mem_seg.1 hx
  have k3:=c2 (by omega)
  have k4:=h.neg (f i) (f a)
  exact h.le _ _ _ (by omega) (srt_le h hB (show a+1≤i by omega) k1 k2)
 have hp:=hB
 rw[seg_app h1 h2]at hp
 obtain⟨q1,q2,q3⟩:=hp.parts
 refine⟨?_,?_,fun k hk=>?_⟩
 ·rw[e]
  refine q1.app (Srt.app (List.pairwise_singleton _ _) q2 fun x hx y hy=>?_) fun x hx y hy=>?_
  ·rw[List.mem_singleton.1 hx];exact hge y hy
  ·rcases List.mem_append.1 hy with hy|hy
   ·rw[List.mem_singleton.1 hy];have:=hlt x hx;omega
   ·exact q3 x hx y hy
 ·rw[e,seg_app (show a≤a+1 by omega) (show a+1≤b by omega),seg_one,seg_app h1 h2,←List.append_assoc,←List.append_assoc]
  exact(Cls.swap h fun x hx y hy=>by rw[List.mem_singleton.1 hy];have:=hlt x hx;omega).app (Cls.refl _)
 ·unfold upF
  by_cases k1:k<a
  ·rw[if_pos k1]
  ·rw[if_neg k1,if_neg (by omega),if_neg (by omega)]
theorem down_done(h:OLaw o){f:Nat→α}{a m i:Nat}(h1:a≤i)(h2:i≤m)(hA:Srt o (seg f a m))(c1:a<i→¬o (f m) (f (i-1))<0)(c2:i<m→o (f m) (f i)<0):Done o f (shiftF f m i) a (m+1):=by
 obtain⟨r1,r2⟩:=inserted h h1 h2 hA (fun hi=>by have k1:=c1 hi;have k2:=h.neg (f m) (f (i-1));omega) (fun k k1 k2=>h.lt_le (c2 (by omega)) (srt_le h hA h1 k1 k2))
 refine⟨r1,r2,fun k hk=>?_⟩
 unfold shiftF
 by_cases k1:k<i
 ·rw[if_pos k1]
 ·rw[if_neg k1,if_neg (by omega),if_neg (by omega)]
def Runs(o:α→α→Int)(f g:Nat→α)(n s:Nat):Prop:=
 (∀t,t * s<n→Srt o (seg g (t * s) (min (t * s+s) n))∧Cls o (seg g (t * s) (min (t * s+s) n)) (seg f (t * s) (min (t * s+s) n)))∧∀k,n≤k→g k=f k
theorem runs_all{f g:Nat→α}{n s:Nat}(h:Runs o f g n s)(hs:n≤s)(hn:0<n):Srt o (seg g 0 n)∧Cls o (seg g 0 n) (seg f 0 n):=by
 have:=h.1 0 (by omega)
 rw[Nat.zero_mul,Nat.zero_add,Nat.min_eq_right hs]at this
 exact this
theorem runs_at{f g:Nat→α}{n s a e:Nat}(h:Runs o f g n s)(ha:∃t,a=t * s)(hn:a<n)(he:e=min (a+s) n):Srt o (seg g a e)∧Cls o (seg g a e) (seg f a e):=by
 obtain⟨t,rfl⟩:=ha
 subst he
 exact h.1 t hn
theorem runs_pair{f g:Nat→α}{n s a e:Nat}(h:Runs o f g n s)(ha:∃t,a=t * (2 * s))(h1:a+s<e)(he:e=min (a+2 * s) n):Srt o (seg g a (a+s))∧Srt o (seg g (a+s) e)∧Cls o (seg g a e) (seg f a e):=by
 obtain⟨t,ht⟩:=ha
 have k1:=runs_at h (a:=a) (e:=a+s) ⟨t * 2,by rw[ht,Nat.mul_assoc]⟩ (by omega) (by omega)
 have k2:=runs_at h (a:=a+s) (e:=e) ⟨t * 2+1,by rw[ht,Nat.add_mul,Nat.mul_assoc,Nat.one_mul]⟩ (by omega) (by omega)
 refine⟨k1.1,k2.1,?_⟩
 rw[seg_app (f:=g) (show a≤a+s by omega) (show a+s≤e by omega),seg_app (f:=f) (show a≤a+s by omega) (show a+s≤e by omega)]
 exact k1.2.app k2.2
theorem runs_one{f g:Nat→α}{n s a:Nat}(h:Runs o f g n s)(ha:∃t,a=t * (2 * s))(h1:n≤a+s):Srt o (seg g a n)∧Cls o (seg g a n) (seg f a n):=by
 by_cases hn:a<n
 ·obtain⟨t,ht⟩:=ha
  exact runs_at h ⟨t * 2,by rw[ht,Nat.mul_assoc]⟩ hn (by omega)
 ·rw[seg_nil (by omega),seg_nil (by omega)]
  exact⟨List.Pairwise.nil,Cls.refl _⟩
structure Prog(o:α→α→Int)(f g0 g:Nat→α)(n s a:Nat):Prop where
 mul:∃t,a=t * s
 le:a≤n
 done:∀t,t * s+s≤a→Srt o (seg g (t * s) (t * s+s))∧Cls o (seg g (t * s) (t * s+s)) (seg f (t * s) (t * s+s))
 rest:∀k,a≤k→g k=g0 k
theorem prog_start(f g0:Nat→α)(n:Nat){s:Nat}(hs:0<s):Prog o f g0 g0 n s 0:=⟨⟨0,by simp⟩,by omega,fun t h=>by omega,fun _ _=>rfl⟩
theorem prog_next{f g0 g g':Nat→α}{n s a:Nat}(hs:0<s)(h:Prog o f g0 g n s a)(hn:a+s≤n)(hd:Done o g g' a (a+s))(hc:Cls o (seg g0 a (a+s)) (seg f a (a+s))):Prog o f g0 g' n s (a+s):=by
 obtain⟨t0,ht0⟩:=h.mul
 refine⟨⟨t0+1,by rw[ht0,Nat.add_mul,Nat.one_mul]⟩,hn,fun t ht=>?_,fun k hk=>by rw[hd.2.2 k (by omega),h.rest k (by omega)]⟩
 by_cases e:t=t0
 ·rw[e,←ht0]
  refine⟨hd.1,hd.2.1.trans ?_⟩
  rw[seg_congr (g:=g0) fun k k1 k2=>h.rest k (by omega)]
  exact hc
 ·have hlt:t<t0:=by
   rcases Nat.lt_or_ge t t0 with h1|h1
   ·exact h1
   ·have h2:(t0+1) * s≤t * s:=Nat.mul_le_mul_right s (by omega)
    rw[Nat.add_mul,Nat.one_mul]at h2
    omega
  have h2:(t+1) * s≤t0 * s:=Nat.mul_le_mul_right s hlt
  rw[Nat.add_mul,Nat.one_mul]at h2
  have eg:seg g' (t * s) (t * s+s)=seg g (t * s) (t * s+s):=seg_congr fun k k1 k2=>hd.2.2 k (by omega)
  rw[eg]
  exact h.done t (by omega)
theorem prog_end{f g0 g g':Nat→α}{n s a:Nat}(hs:0<s)(h:Prog o f g0 g n s a)(hn:n<a+s)(hd:Done o g g' a n)(hc:Cls o (seg g0 a n) (seg f a n))(hr:∀k,n≤k→g0 k=f k):Runs o f g' n s:=by
 obtain⟨t0,ht0⟩:=h.mul
 have hle:=h.le
 refine⟨fun t ht=>?_,fun k hk=>by rw[hd.2.2 k (by omega),h.rest k (by omega),hr k hk]⟩
 have hge:t≤t0:=by
  rcases Nat.lt_or_ge t0 t with h1|h1
  ·have h2:(t0+1) * s≤t * s:=Nat.mul_le_mul_right s h1
   rw[Nat.add_mul,Nat.one_mul]at h2
   omega
  ·exact h1
 by_cases e:t=t0
 ·rw[e,←ht0,Nat.min_eq_right (by omega)]
  refine⟨hd.1,hd.2.1.trans ?_⟩
  rw[seg_congr (g:=g0) fun k k1 k2=>h.rest k (by omega)]
  exact hc
 ·have h2:(t+1) * s≤t0 * s:=Nat.mul_le_mul_right s (by omega)
  rw[Nat.add_mul,Nat.one_mul]at h2
  rw[Nat.min_eq_left (by omega)]
  have eg:seg g' (t * s) (t * s+s)=seg g (t * s) (t * s+s):=seg_congr fun k k1 k2=>hd.2.2 k (by omega)
  rw[eg]
  exact h.done t (by omega)
end
end Go.Proofs.YtidplkfhodpdhaaGreatDoor.stab
namespace Go.Proofs.YtidplkfhodpdhaaGreatDoor.kit
open Go
section
variable{P:Program}{ops:Array Oper}{Q:Exit→Act→World→Prop}{md:Region.Mode}{S:World→Prop}{L:List Nat}
theorem young_stay{listed:Array Bool}(h:young L listed=false)(i:Nat):young L (listed.setIfInBounds i true)=false:=by
 unfold young at *
 rw[List.all_eq_false]at *
 obtain⟨l,hl,h2⟩:=h
 refine⟨l,hl,fun h3=>h2 ?_⟩
 rw[beq_iff_eq]at *
 by_cases e:i=l
 ·subst e
  rcases Nat.lt_or_ge i listed.size with h'|h'
  ·simp[Array.getD,h']at h3
  ·simp[Array.getD,Nat.not_lt.2 h']at h3
 ·rw[getD_set_ne true e]at h3
  exact h3
theorem late_free:∀(fuel:Nat) (listed:Array Bool) (a:Act) (w:World),young L listed=false→wpAnyH P md ops Q (fun _=>True) fuel listed a w→wpAnyL P md ops Q S L fuel listed a w
 |0,_,_,_,_,h=>h
 |fuel+1,_,_,_,hy,h=>⟨h.1,fun i hi=>wpOp_mono (fun a' w' h'=>⟨fun hc=>absurd ((young_stay hy i).symm.trans hc) Bool.false_ne_true,late_free fuel _ a' w' (young_stay hy i) h'.2⟩) (h.2 i hi)⟩
theorem young_back{listed:Array Bool}{j:Nat}(h:young L (listed.setIfInBounds j true)=true)(hj:∀l∈L,l≠j):young L listed=true:=by
 unfold young at *
 rw[List.all_eq_true]at *
 intro l hl
 have:=h l hl
 rwa [getD_set_ne true (fun e=>hj l hl e.symm)]at this
theorem young_over{listed:Array Bool}{i j:Nat}(h:young L (listed.setIfInBounds j true)=true)(hi:∀l∈L,l≠i):young L ((listed.setIfInBounds i true).setIfInBounds j true)=true:=by
 by_cases e:j=i
 ·subst e
  unfold young at *
  rw[List.all_eq_true]at *
  intro l hl
  have h1:=h l hl
  rw[getD_set_ne true (fun e=>hi l hl e.symm)]at h1 ⊢
  rw[getD_set_ne true (fun e=>hi l hl e.symm)]
  exact h1
 ·rw[←Array.setIfInBounds_comm _ _ e]
  exact young_set h hi
theorem wpAnyL_firstP{i:Nat}{oi:Oper}{v:Value}(hi:ops[i]? = some oi)(hsel:∀(j:Nat) (o:Oper) cs b,ops[j]? = some o→o.op≠.select cs b)
 (hQ:∀c a w,Q (.panic c) (a.put oi.dst v) w→Q (.panic c) a w)(hLi:∀l∈L,l≠i):
 ∀(fuel:Nat) (listed:Array Bool) (a:Act) (w:World),
  (∀j oj,ops[j]? = some oj→j≠i→listed.getD j true=false→(∀e∈oj.after,Region.binds md e=true→e.on≠i)→oi.apart ops oj=true) →
  i∈Region.ready md ops listed→YieldsIf P ops (fun _=>True) oi v a→(young L listed=true→S w) →
  wpAnyL P md ops Q S L fuel (listed.setIfInBounds i true) (a.put oi.dst v) w→wpAnyL P md ops Q S L (fuel+1) listed a w:=by
 intro fuel
 induction fuel with
 | zero =>
  intro listed a w _ hr hy hS H
  refine⟨fun h=>(by rw[h]at hr;cases hr),fun j hj=>?_⟩
  by_cases hji:j=i
  ·subst hji;exact hy.wpOp hi trivial ⟨fun h=>hS (young_back h hLi),H⟩
  ·have:=ready_mono hj hji
   rw[H.1]at this
   cases this
 | succ fuel ih =>
  intro listed a w hfree hr hy hS H
  refine⟨fun h=>(by rw[h]at hr;cases hr),fun j hj=>?_⟩
  by_cases hji:j=i
  ·subst hji;exact hy.wpOp hi trivial ⟨fun h=>hS (young_back h hLi),H⟩
  ·have h1:=H.2 j (ready_mono hj hji)
   obtain⟨hjun,oj,hoj,hall⟩:=mem_ready.1 hj
   have hnot:∀e∈oj.after,Region.binds md e=true→e.on≠i:=fun e he hb heq=>by
    have h1:=hall e he hb
    have h0:=(mem_ready.1 hr).1
    rw[heq]at h1
    rcases Nat.lt_or_ge i listed.size with h'|h'
    ·simp[h']at h0 h1;rw[h0]at h1;cases h1
    ·simp[Array.getElem?_eq_none h']at h1
   have h2:=wpOp_putIf hoj (hfree j oj hoj hji hjun hnot) (fun cs b=>hsel i oi cs b hi) (fun cs b=>hsel j oj cs b hoj) hQ hy h1
   have hfree':∀k ok,ops[k]? = some ok→k≠i→(listed.setIfInBounds j true).getD k true=false →
    (∀e∈ok.after,Region.binds md e=true→e.on≠i)→oi.apart ops ok=true:=fun k ok hk hki hun hno=>by
    refine hfree k ok hk hki ?_ hno
    by_cases hjk:j=k
    ·subst hjk;exact hjun
    ·rw[getD_set_ne true hjk]at hun;exact hun
   refine wpOp_mono (fun a' w' h3=>?_) h2
   refine⟨fun h=>h3.2.1 (young_over h hLi),ih (listed.setIfInBounds j true) a' w' hfree' (ready_mono hr (Ne.symm hji)) h3.1 (fun h=>h3.2.1 (young_over h hLi)) ?_⟩
   rw[Array.setIfInBounds_comm _ _ hji]
   exact h3.2.2
theorem tkP(i:Nat)(v:Value){oi:Oper}{fuel:Nat}{listed:Array Bool}{a a2:Act}{w:World}(hi:ops[i]? = some oi)
 (hy:∀w,(execOp a.eval oi).run P w=.ok (.value v) w)(hS:S w)(h:wpAnyL P md ops Q S L fuel (listed.setIfInBounds i true) a2 w)
 (hs:Region.noSelect ops=true:=by kernel_rfl)(hf:Region.free md ops listed i=true:=by kernel_rfl)(hr:(Region.ready md ops listed).contains i=true:=by kernel_rfl)
 (hLi:L.all (fun l=>l != i)=true:=by kernel_rfl)
 (hQ:∀c a w,Q (.panic c) (a.put oi.dst v) w→Q (.panic c) a w:=by exact fun _ _ _ h=>h)(hg:Region.wanted oi (yielded ops a.tmps)=true:=by kernel_rfl)
 (ha:a.put oi.dst v=a2:=by simp only[List.getElem_toArray,List.getElem_cons_succ,List.getElem_cons_zero,Act.put,List.setIfInBounds_toArray,List.set_cons_zero,List.set_cons_succ];rfl):
 wpAnyL P md ops Q S L (fuel+1) listed a w:=
 wpAnyL_firstP hi (Region.noSelect_spec hs) hQ (fun l hl=>by have:=List.all_eq_true.1 hLi l hl;simpa using this) fuel listed a w (Region.free_spec hi hf) (by simpa using hr) (.inl ⟨hg,fun w _=>hy w⟩) (fun _=>hS) (ha ▸ h)
theorem tkPC(v:Value){i:Nat}{M:List Nat}{oi:Oper}{fuel:Nat}{listed:Array Bool}{a a2:Act}{w:World}(hi:ops[i]? = some oi)
 (hy:∀w,(execOp a.eval oi).run P w=.ok (.value v) w)(hS:S w)(h:wpTl M P md ops Q S L fuel (listed.setIfInBounds i true) a2 w)
 (hs:Region.noSelect ops=true:=by kernel_rfl)(hf:Region.free md ops listed i=true:=by kernel_rfl)(hr:(Region.ready md ops listed).contains i=true:=by kernel_rfl)
 (hLi:L.all (fun l=>l != i)=true:=by kernel_rfl)
 (hQ:∀c a w,Q (.panic c) (a.put oi.dst v) w→Q (.panic c) a w:=by exact fun _ _ _ h=>h)(hg:Region.wanted oi (yielded ops a.tmps)=true:=by kernel_rfl)
 (ha:a.put oi.dst v=a2:=by simp only[List.getElem_toArray,List.getElem_cons_succ,List.getElem_cons_zero,Act.put,List.setIfInBounds_toArray,List.set_cons_zero,List.set_cons_succ];rfl):
 wpTl (i::M) P md ops Q S L (fuel+1) listed a w:=tkP i v hi hy hS h hs hf hr hLi hQ hg ha
end
end Go.Proofs.YtidplkfhodpdhaaGreatDoor.kit
namespace Go.Proofs.YtidplkfhodpdhaaGreatDoor.stab
open Go.ChangeShapes Go.WideShapes Go.ChangeAt Go.RowKit kit dec val tab
abbrev Px:=Value×List V
def oP(s:Bool)(x y:Px):Int:=ordL s x.2 y.2
theorem ordL_le(s:Bool){a b c:List V}(h1:ordL s a b≤0)(h2:ordL s b c≤0):ordL s a c≤0:=by
 have ht:=ordL_tri s a b c
 have hi:=ordL_in s a c
 unfold Tri at ht
 unfold In1 at hi
 omega
theorem lawR(s:Bool):OLaw (ordL s):=⟨fun x y=>ordL_neg s x y,fun x y z=>ordL_le s⟩
theorem lawP(s:Bool):OLaw (oP s):=⟨fun x y=>ordL_neg s x.2 y.2,fun x y z=>ordL_le s⟩
structure SW(w1 w:World)(g n:Nat)(f:Nat→Px):Prop where
 out:Out (fun b=>b=g) w1 w
 cells:∃cs,Blk w g cs 37∧n≤cs.size∧∀j,j<n→cs[j]? = some (f j).1
theorem SW.cell{w1 w:World}{g n:Nat}{f:Nat→Px}(h:SW w1 w g n f){j:Nat}(hj:j<n):w.cell? ⟨g,j,none⟩=some (f j).1:=by
 obtain⟨cs,hq,-,hc⟩:=h.cells
 exact hq.cell j (hc j hj)
theorem SW.stay{w1 w w':World}{g n:Nat}{f:Nat→Px}(h:SW w1 w g n f)(hb:Below w.heap.size w w'):SW w1 w' g n f:=by
 obtain⟨cs,hq,h1,hc⟩:=h.cells
 exact⟨h.out.trans (Out.ofBelow (S:=fun b=>b=g) hb) (fun _ h=>h),cs,(hb.block _ hq.lt).trans hq,h1,hc⟩
theorem SW.congr{w1 w:World}{g n:Nat}{f f':Nat→Px}(h:SW w1 w g n f)(he:∀j,f' j=f j):SW w1 w g n f':=by
 obtain⟨cs,hq,h1,hc⟩:=h.cells
 exact⟨h.out,cs,hq,h1,fun j hj=>by rw[he j];exact hc j hj⟩
theorem SW.put{w1 w:World}{g n:Nat}{f:Nat→Px}(h:SW w1 w g n f){i:Nat}(hi:i<n)(x:Px):SW w1 (w.setCell ⟨g,i,none⟩ x.1) g n (fun k=>if k=i then x else f k):=by
 obtain⟨cs,hq,h1,hc⟩:=h.cells
 refine⟨h.out.setCell ⟨g,i,none⟩ rfl x.1,cs.setIfInBounds i x.1,hq.set i x.1,by simpa using h1,fun j hj=>?_⟩
 by_cases e:j=i
 ·subst e
  rw[if_pos rfl,Array.getElem?_setIfInBounds_self_of_lt (by omega)]
 ·rw[if_neg e,Array.getElem?_setIfInBounds_ne (fun h=>e h.symm)]
  exact hc j hj
theorem SW.free{w1 w:World}{g n:Nat}{f:Nat→Px}(h:SW w1 w g n f)(i:Nat):w.frozen? ⟨g,i,none⟩=false:=by
 obtain⟨cs,hq,-,-⟩:=h.cells
 exact hq.free i
theorem SW.swap{w1 w:World}{g n:Nat}{f:Nat→Px}(h:SW w1 w g n f){i j:Nat}(hi:i<n)(hj:j<n)(hn:i≠j):SW w1 ((w.setCell ⟨g,i,none⟩ (f j).1).setCell ⟨g,j,none⟩ (f i).1) g n (swapF f i j):=by
 refine((h.put hi (f j)).put hj (f i)).congr fun k=>?_
 unfold swapF
 by_cases h1:k=i
 ·subst h1
  rw[if_pos rfl,if_neg hn,if_pos rfl]
 ·rw[if_neg h1]
  by_cases h2:k=j
  ·rw[if_pos h2,if_pos h2]
  ·rw[if_neg h2,if_neg h2,if_neg h1]
def okF(w0:World)(N n:Nat)(f:Nat→Px):Prop:=∀j,j<n→LA w0 N (f j).1 (f j).2
def CmpC(w0 w1:World)(N g:Nat)(lang:Int)(p q:Value):Prop:=
 ∀W,Out (fun b=>b=g) w1 W→∀(s s2:Value) (l l2:List V),LA w0 N s l→LA w0 N s2 l2→Calls Tryz.prog 82 #[s,s2,p,q] W fun e w'=>e=.returned (.int .i64 (ordL (decide (lang=1)) l l2))∧Below W.heap.size W w'
theorem done_ok{w0:World}{N n:Nat}{s:Bool}{f g:Nat→Px}{a b:Nat}(h:okF w0 N n f)(hd:Done (oP s) f g a b)(hb:b≤n):okF w0 N n g:=fun j hj=>by
 by_cases hin:a≤j∧j<b
 ·have h1:g j∈seg g a b:=mem_seg.2 ⟨j,hin.1,hin.2,rfl⟩
  obtain⟨k,k1,k2,e⟩:=mem_seg.1 (hd.2.1.mem (lawP s) h1)
  rw[←e]
  exact h k (by omega)
 ·rw[hd.2.2 j hin]
  exact h j hj
def SortOut(w1:World)(g n:Nat)(s:Bool)(f:Nat→Px)(a b:Nat)(e:Ending)(w':World):Prop:=e=.returned (.tuple #[])∧∃f',SW w1 w' g n f'∧Done (oP s) f f' a b
theorem ins_next{α:Type}{o:α→α→Int}(h:OLaw o){f fi:Nat→α}{a i j:Nat}(hd:Done o f fi a i)(h1:a≤j)(h2:j≤i)(hj:a<j→¬o (fi i) (fi (j-1))<0)(hb:∀k,j≤k→k<i→o (fi i) (fi k)<0):
 Done o f (shiftF fi i j) a (i+1):=by
 obtain⟨r1,r2⟩:=inserted h h1 h2 hd.1 (fun hlt=>by have k1:=hj hlt;have k2:=h.neg (fi i) (fi (j-1));omega) hb
 refine⟨r1,r2.trans ?_,fun k hk=>?_⟩
 ·rw[seg_app (f:=fi) (show a≤i by omega) (show i≤i+1 by omega),seg_app (f:=f) (show a≤i by omega) (show i≤i+1 by omega),seg_one,seg_one,hd.2.2 i (by omega)]
  exact hd.2.1.app (Cls.refl _)
 ·rw[←hd.2.2 k (by omega)]
  unfold shiftF
  by_cases k1:k<j
  ·rw[if_pos k1]
  ·rw[if_neg k1,if_neg (by omega),if_neg (by omega)]
theorem shift_at{α:Type}(f:Nat→α)(i j:Nat):shiftF f i j j=f i:=by unfold shiftF;rw[if_neg (by omega),if_pos rfl]
theorem shift_low{α:Type}(f:Nat→α){i j k:Nat}(h:k<j):shiftF f i j k=f k:=by unfold shiftF;rw[if_pos h]
theorem shift_ok{w0:World}{N n i j:Nat}{f:Nat→Px}(h:okF w0 N n f)(hi:i<n)(hj:j≤i):okF w0 N n (shiftF f i j):=fun k hk=>by
 unfold shiftF
 by_cases h1:k<j
 ·rw[if_pos h1];exact h k hk
 ·rw[if_neg h1]
  by_cases h2:k=j
  ·rw[if_pos h2];exact h i hi
  ·rw[if_neg h2]
   by_cases h3:k≤i
   ·rw[if_pos h3];exact h _ (by omega)
   ·rw[if_neg h3];exact h k hk
theorem insSort_any(w0 w1:World)(N g n cap:Nat)(lang:Int)(p q:Value)(hC:CmpC w0 w1 N g lang p q)(hn:n≤1048576)(hcap:n≤cap)(a b:Nat)(hab:a≤b)(hbn:b≤n)(w:World)(f:Nat→Px)(hS:SW w1 w g n f)(hok:okF w0 N n f):
 Calls Tryz.prog 154 #[.slice (some ⟨g,0,none⟩) n cap,.int .i64 a,.int .i64 b,.func (.func 82) #[] #[p,q]] w (SortOut w1 g n (decide (lang=1)) f a b):=by
 have hni:(n:Int)≤1048576:=by omega
 have hbi:(b:Int)≤1048576:=by omega
 have hai:(a:Int)≤1048576:=by omega
 replace hC:=Hd hC
 have haw:IntKind.i64.wrap ((a:Int)+1)=(a:Int)+1:=IntWalk.i64_in _ (by omega)
 have hD0:Hid (Done (oP (decide (lang=1))) f f a (min (a+1) b)):=Hd (done_self (by
  rcases Nat.lt_or_ge a b with h|h
  ·rw[Nat.min_eq_left (by omega),seg_one];exact List.pairwise_singleton _ _
  ·rw[seg_nil (by omega)];exact List.Pairwise.nil))
 replace hS:=Hd hS
 replace hok:=Hd hok
 go_enter Tryz.func154,Tryz.ntmps154
 go_wp2
 go_loopw [8] (fun v wr=>∃(i:Nat) (fi:Nat→Px),a+1≤i∧(i≤b∨i=a+1)∧v=.int .i64 (i:Int)∧Hid (SW w1 wr g n fi)∧Hid (okF w0 N n fi)∧Hid (Done (oP (decide (lang=1))) f fi a (min i b))) (fun v _=>b+1-(intOf v).toNat)
 case atStart=>exact⟨a+1,f,by omega,by omega,by go_num,hS,hok,hD0⟩
 case round =>
  clear hS hok hD0 haw
  obtain⟨i,fi,hi1,hi2,rfl,hSi,hok,hD⟩:=hrel
  obtain⟨w2,rfl⟩:∃z:World,z=wr:=⟨_,rfl⟩
  by_cases hlt:i<b
  ·have hki:(i:Int)<(b:Int):=by omega
   have hii:(i:Int)≤1048576:=by omega
   have hS0:Hid (SW w1 w2 g n (shiftF fi i i)):=Hd (hSi.out.congr fun k=>shift_self fi i k)
   have hl0:Hid (∀k,i≤k→k<i→oP (decide (lang=1)) (fi i) (fi k)<0):=Hd (fun k h1 h2=>by omega)
   clear hSi
   go_wp2
   go_loopw [9] (fun v wr=>∃j:Nat,a≤j∧j≤i∧v=.int .i64 (j:Int)∧Hid (SW w1 wr g n (shiftF fi i j))∧Hid (∀k,j≤k→k<i→oP (decide (lang=1)) (fi i) (fi k)<0)) (fun v _=>(intOf v).toNat)
   case atStart=>exact⟨i,by omega,by omega,rfl,hS0,hl0⟩
   case round=>
    clear hS0 hl0
    obtain⟨j,hj1,hj2,rfl,hSj,hlow⟩:=hrel
    obtain⟨w3,rfl⟩:∃z:World,z=wr:=⟨_,rfl⟩
    have hdr:Below w3.heap.size w3 w3.drew:=below_drewN (Below.refl _ _) 1
    have hSd:=Hd (hSj.out.stay hdr)
    clear hSj
    by_cases hja:a<j
    case neg=>
     have hmi:¬(a:Int)<(j:Int):=by omega
     go_upto_region 4 with fail
     refine wp_region_held_drew (S:=fun V=>True) (by kernel_rfl) trivial (fun hS=>?_)
     generalize w3.drew=V0 at *
     refine tkS [0,1,2,3] ?_
     iterate 4
      refine tkC ?_ rfl (fun w' hS=>?_) hS ?_
      rotate_left
      ·
       skip
       go_simp
       try with_reducible rfl
     refine tkS [4,5,6,7,8,9,10,11,12,13,14,15] ?_
     iterate 12 (refine tkV rfl hS ?_)
     refine tkH 16 ?_ rfl (fun w' hS=>?_) hS ?_
     rotate_left
     ·
      skip
      go_simp
      try with_reducible rfl
     refine wpAnyH_done (by kernel_rfl) ?_ _
     clear hS hdr
     have hSj:=hSd
     clear hSd
     have hSn:=Hd hSj.out
     have hDn:Hid (Done (oP (decide (lang=1))) f (shiftF fi i j) a (min (i+1) b)):=Hd (by
      rw[Nat.min_eq_left (by omega)]
      exact ins_next (lawP _) (by have h:=hD.out;rwa [Nat.min_eq_left (by omega)]at h) hj1 hj2 (fun h=>absurd h hja) hlow.out)
     have hokn:=Hd (shift_ok hok.out (show i<n by omega) hj2)
     clear hlow hSj
     go_wp2
     go_roundw
     case rel=>exact⟨i+1,shiftF fi i j,by omega,by omega,by go_num,hSn,hokn,hDn⟩
     case measure=>simp[intOf];omega
    obtain⟨r,hr⟩:∃r,j=r+1:=⟨j-1,by omega⟩
    have hmi:(a:Int)<(j:Int):=by omega
    have hjw:IntKind.i64.wrap ((j:Int)-1)=(r:Int):=by rw[IntWalk.i64_in _ (by omega)];omega
    have hjn:(j:Int)<(n:Int):=by omega
    have hrn:(r:Int)<(n:Int):=by omega
    have hrj:r<j:=by omega
    have har:a≤r:=by omega
    obtain⟨u1,l1,hu1⟩:∃u l,fi i=(u,l):=⟨_,_,rfl⟩
    obtain⟨u2,l2,hu2⟩:∃u l,fi r=(u,l):=⟨_,_,rfl⟩
    have y1:w3.drew.cell? ⟨g,j,none⟩=some u1:=by have h:=hSd.out.cell (show j<n by omega);rwa [shift_at,hu1]at h
    have y2:w3.drew.cell? ⟨g,r,none⟩=some u2:=by have h:=hSd.out.cell (show r<n by omega);rwa [shift_low fi hrj,hu2]at h
    have la1:LA w0 N u1 l1:=by have h:=hok.out i (by omega);rwa [hu1]at h
    have la2:LA w0 N u2 l2:=by have h:=hok.out r (by omega);rwa [hu2]at h
    obtain⟨c,hc⟩:∃c,ordL (decide (lang=1)) l1 l2=c:=⟨_,rfl⟩
    have hcal:=Hd (hC.out w3.drew hSd.out.out u1 u2 l1 l2 la1 la2)
    rw[hc]at hcal
    have hoc:Hid (oP (decide (lang=1)) (fi i) (fi r)=c):=Hd (by unfold oP;rw[hu1,hu2];exact hc)
    have hu1h:=Hd hu1
    have hu2h:=Hd hu2
    obtain⟨e1,d1,rfl⟩:=LA.form6 la1
    obtain⟨e2,d2,rfl⟩:=LA.form6 la2
    replace hr:=Hd hr
    clear la1 la2 hc hu1 hu2 hdr
    go_upto_region 4 with fail
    refine wp_region_held_drew (S:=fun V=>Below w3.drew.heap.size w3.drew V) (by kernel_rfl) (Below.refl _ _) (fun hS=>?_)
    have hV0:=hS
    generalize w3.drew=V0 at *
    refine tkS [0,1,2,3,4,5,6,7,8,9,10,11,12,13] ?_
    iterate 14
     refine tkC ?_ rfl (fun w' hS=>?_) hS ?_
     rotate_left
     ·
      have z1:=sB hS y1;have z2:=sB hS y2
      go_simp
      try with_reducible rfl
    refine rdH 14 rfl (fun K hK=>?_)
    clear hS
    go_simp
    refine(hcal.out).mono ?_
    rintro e w4 ⟨rfl,hb4⟩
    go_wp2_with fail
    refine hKo hK (hb4) (fun hS=>?_)
    clear hK K
    refine tkS [15,16] ?_
    iterate 2
     refine tkC ?_ rfl (fun w' hS=>?_) hS ?_
     rotate_left
     ·
      skip
      go_simp
      try with_reducible rfl
    refine wpAnyH_done (by kernel_rfl) ?_ _
    clear hS hcal hV0
    have hS4:=Hd (hSd.out.stay hb4)
    replace y1:=sB hb4 y1
    replace y2:=sB hb4 y2
    clear hSd hb4
    by_cases hneg:c<0
    case neg=>
     have hnb:¬oP (decide (lang=1)) (fi i) (fi (j-1))<0:=by rw[hr.out,Nat.add_sub_cancel,hoc.out];exact hneg
     replace hnb:=Hd hnb
     have hSj:=hS4
     clear hS4 y1 y2 hoc hu1h hu2h hjw
     have hSn:=Hd hSj.out
     have hDn:Hid (Done (oP (decide (lang=1))) f (shiftF fi i j) a (min (i+1) b)):=Hd (by
      rw[Nat.min_eq_left (by omega)]
      exact ins_next (lawP _) (by have h:=hD.out;rwa [Nat.min_eq_left (by omega)]at h) hj1 hj2 (fun _=>hnb.out) hlow.out)
     have hokn:=Hd (shift_ok hok.out (show i<n by omega) hj2)
     clear hlow hSj
     go_wp2
     go_roundw
     case rel=>exact⟨i+1,shiftF fi i j,by omega,by omega,by go_num,hSn,hokn,hDn⟩
     case measure=>simp[intOf];omega
    have hd4:Below w4.heap.size w4 w4.drew:=below_drewN (Below.refl _ _) 1
    have hS5:=hS4.out.stay hd4
    have hF1:(shiftF fi i j j).1=.slice e1 l1.length d1:=by rw[shift_at,hu1h.out]
    have hF2:(shiftF fi i j r).1=.slice e2 l2.length d2:=by rw[shift_low fi hrj,hu2h.out]
    have hsw:=hS5.swap (show j<n by omega) (show r<n by omega) (show j≠r by omega)
    rw[hF1,hF2]at hsw
    have hsw2:=Hd (hsw.congr (f':=shiftF fi i r) fun k=>by have h:=shift_swap fi (show 0<j by omega) hj2 k;rw[hr.out,Nat.add_sub_cancel]at h;rw[hr.out];exact h.symm)
    have hput:=hS5.put (show j<n by omega) (shiftF fi i j r)
    rw[hF2]at hput
    have y3:=hput.cell (show r<n by omega)
    rw[if_neg (by omega),hF2]at y3
    have f3:=hput.free r
    have f1:=hS5.free j
    have y1':w4.drew.cell? ⟨g,j,none⟩=some (.slice e1 l1.length d1):=y1
    have y2':w4.drew.cell? ⟨g,r,none⟩=some (.slice e2 l2.length d2):=y2
    have hl3:Hid (∀k,r≤k→k<i→oP (decide (lang=1)) (fi i) (fi k)<0):=Hd (fun k k1 k2=>by
     by_cases e:k=r
     ·rw[e,hoc.out];exact hneg
     ·exact hlow.out k (by have:=hr.out;omega) k2)
    clear hsw hput hS4 hS5 hlow hF1 hF2 hoc hu1h hu2h y1 y2
    go_upto_region 6 with fail
    refine wp_region_late [15] (S:=fun V=>V.cell? ⟨g,j,none⟩=some (.slice e1 l1.length d1)∧V.cell? ⟨g,r,none⟩=some (.slice e2 l2.length d2)) (by kernel_rfl) ⟨y1',y2'⟩ (fun hS=>?_)
    generalize w4.drew=V4 at *
    refine tlS [0,1,2,3,4,5,6,7,8] ?_
    iterate 9
     refine tkPC ?_ rfl (fun w'=>?_) hS ?_
     rotate_left
     ·
      go_simp
      try with_reducible rfl
    refine tlH 9 ?_ rfl (fun w' hS=>?_) hS ?_
    rotate_left
    ·
     obtain⟨z1,z2⟩:=hS
     go_simp
     try with_reducible rfl
    refine tlS [10,11,12] ?_
    iterate 3
     refine tkPC ?_ rfl (fun w'=>?_) hS ?_
     rotate_left
     ·
      go_simp
      try with_reducible rfl
    refine tlH 13 ?_ rfl (fun w' hS=>?_) hS ?_
    rotate_left
    ·
     obtain⟨z1,z2⟩:=hS
     go_simp
     try with_reducible rfl
    refine tkP 14 ?_ rfl (fun w'=>?_) hS ?_
    rotate_left
    ·
     skip
     go_simp
     try with_reducible rfl
    refine wpAnyL_late (i:=15) (by kernel_rfl) rfl (by kernel_rfl) (fun K hK=>?_)
    clear hS
    go_simp
    go_wp2_with fail
    refine hK.out _ _ ?_
    clear hK K f1 y1' y2'
    try simp only[List.getElem_toArray,List.getElem_cons_succ,List.getElem_cons_zero,Act.put,List.setIfInBounds_toArray,List.set_cons_zero,List.set_cons_succ]
    refine late_free _ _ _ _ (by kernel_rfl) ?_
    have hS:(fun _:World=>True) V4:=trivial
    refine tkH 16 ?_ rfl (fun w' hS=>?_) hS ?_
    rotate_left
    ·
     skip
     go_simp
     try with_reducible rfl
    refine rdH 17 rfl (fun K hK=>?_)
    clear hS
    go_simp
    go_wp2_with fail
    refine hKo hK trivial (fun hS=>?_)
    clear hK K f3 y3
    refine wpAnyH_done (by kernel_rfl) ?_ _
    clear hS
    generalize World.setCell _ _ _=w5 at *
    go_wp2
    go_roundw
    case rel=>exact⟨r,by omega,by omega,by go_num,hsw2,hl3⟩
    case measure=>have:=hr.out;simp[intOf];omega
  ·have hki:¬(i:Int)<(b:Int):=by omega
   have hfin:Hid (SortOut w1 g n (decide (lang=1)) f a b (.returned (.tuple #[])) w2):=Hd ⟨rfl,fi,hSi.out,by have h:=hD.out;rwa [Nat.min_eq_right (by omega)]at h⟩
   go_wp2
   go_end0
   exact hfin.out
theorem range_ok{w0:World}{N n a b m:Nat}{f:Nat→Px}(h:okF w0 N n f)(ha:a+m≤n)(hb:b+m≤n):okF w0 N n (rangeF f a b m):=fun k hk=>by
 unfold rangeF
 by_cases h1:a≤k∧k<a+m
 ·rw[if_pos h1];exact h _ (by omega)
 ·rw[if_neg h1]
  by_cases h2:b≤k∧k<b+m
  ·rw[if_pos h2];exact h _ (by omega)
  ·rw[if_neg h2];exact h k hk
theorem range_a{α:Type}(f:Nat→α){a b i:Nat}(h:a+i<b):rangeF f a b i (a+i)=f (a+i):=by
 unfold rangeF
 rw[if_neg (by omega),if_neg (by omega)]
theorem range_b{α:Type}(f:Nat→α){a b i:Nat}(h:a+i<b):rangeF f a b i (b+i)=f (b+i):=by
 unfold rangeF
 rw[if_neg (by omega),if_neg (by omega)]
def RangeOut(w1:World)(g n:Nat)(f:Nat→Px)(e:Ending)(w':World):Prop:=e=.returned (.tuple #[])∧SW w1 w' g n f
theorem swapRange_any(w0 w1:World)(N g n cap:Nat)(p q:Value)(hn:n≤1048576)(hcap:n≤cap)(a b m:Nat)(hab:a+m≤b)(hbn:b+m≤n)(w:World)(f:Nat→Px)(hS:SW w1 w g n f)(hok:okF w0 N n f):
 Calls Tryz.prog 198 #[.slice (some ⟨g,0,none⟩) n cap,.int .i64 a,.int .i64 b,.int .i64 m,.func (.func 82) #[] #[p,q]] w (RangeOut w1 g n (rangeF f a b m)):=by
 have hni:(n:Int)≤1048576:=by omega
 have hS0:Hid (SW w1 w g n (rangeF f a b 0)):=Hd (hS.congr fun k=>range_zero f a b k)
 replace hok:=Hd hok
 clear hS
 go_enter Tryz.func198,Tryz.ntmps198
 go_wp2
 go_loopw [10] (fun v wr=>∃i:Nat,i≤m∧v=.int .i64 (i:Int)∧Hid (SW w1 wr g n (rangeF f a b i))) (fun v _=>m-(intOf v).toNat)
 case atStart=>exact⟨0,by omega,rfl,hS0⟩
 case round=>
  clear hS0
  obtain⟨i,hi,rfl,hSi⟩:=hrel
  obtain⟨w3,rfl⟩:∃z:World,z=wr:=⟨_,rfl⟩
  by_cases hlt:i<m
  ·have hki:(i:Int)<(m:Int):=by omega
   have hna:a+i<n:=by omega
   have hnb:b+i<n:=by omega
   obtain⟨u1,l1,hu1⟩:∃u l,f (a+i)=(u,l):=⟨_,_,rfl⟩
   obtain⟨u2,l2,hu2⟩:∃u l,f (b+i)=(u,l):=⟨_,_,rfl⟩
   have la1:LA w0 N u1 l1:=by have h:=hok.out (a+i) (by omega);rwa [hu1]at h
   have la2:LA w0 N u2 l2:=by have h:=hok.out (b+i) (by omega);rwa [hu2]at h
   obtain⟨e1,d1,rfl⟩:=LA.form6 la1
   obtain⟨e2,d2,rfl⟩:=LA.form6 la2
   have hd:Below w3.heap.size w3 w3.drew:=below_drewN (Below.refl _ _) 1
   have hS5:=hSi.out.stay hd
   have hF1:(rangeF f a b i (a+i)).1=.slice e1 l1.length d1:=by rw[range_a f (by omega),hu1]
   have hF2:(rangeF f a b i (b+i)).1=.slice e2 l2.length d2:=by rw[range_b f (by omega),hu2]
   have y1:=hS5.cell hna
   have y2:=hS5.cell hnb
   rw[hF1]at y1
   rw[hF2]at y2
   have hsw:=hS5.swap hna hnb (show a+i≠b+i by omega)
   rw[hF1,hF2]at hsw
   have hsw2:=Hd (hsw.congr (f':=rangeF f a b (i+1)) fun k=>(range_step f (show a+i<b by omega) k).symm)
   have hput:=hS5.put hna (rangeF f a b i (b+i))
   rw[hF2]at hput
   have y3:=hput.cell hnb
   rw[if_neg (by omega),hF2]at y3
   have f3:=hput.free (b+i)
   have f1:=hS5.free (a+i)
   clear hsw hput hS5 hF1 hF2 hu1 hu2 la1 la2 hSi hd
   generalize hai:a+i=ai at *
   generalize hbi:b+i=bi at *
   have haw:IntKind.i64.wrap ((a:Int)+(i:Int))=(ai:Int):=by rw[IntWalk.i64_in _ (by omega)];omega
   have hbw:IntKind.i64.wrap ((b:Int)+(i:Int))=(bi:Int):=by rw[IntWalk.i64_in _ (by omega)];omega
   have ha1:(ai:Int)<(n:Int):=by omega
   have hb1:(bi:Int)<(n:Int):=by omega
   replace hai:=Hd hai
   replace hbi:=Hd hbi
   go_upto_region 3 with fail
   refine wp_region_late [21] (S:=fun V=>V.cell? ⟨g,ai,none⟩=some (.slice e1 l1.length d1)∧V.cell? ⟨g,bi,none⟩=some (.slice e2 l2.length d2)) (by kernel_rfl) ⟨y1,y2⟩ (fun hS=>?_)
   generalize w3.drew=V4 at *
   refine tlS [0,1,2,3,4,5,6,7,8,9,10,11,12] ?_
   iterate 13
    refine tkPC ?_ rfl (fun w'=>?_) hS ?_
    rotate_left
    ·
     go_simp
     try with_reducible rfl
   refine tlH 13 ?_ rfl (fun w' hS=>?_) hS ?_
   rotate_left
   ·
    obtain⟨z1,z2⟩:=hS
    go_simp
    try with_reducible rfl
   refine tlS [14,15,16,17,18] ?_
   iterate 5
    refine tkPC ?_ rfl (fun w'=>?_) hS ?_
    rotate_left
    ·
     go_simp
     try with_reducible rfl
   refine tlH 19 ?_ rfl (fun w' hS=>?_) hS ?_
   rotate_left
   ·
    obtain⟨z1,z2⟩:=hS
    go_simp
    try with_reducible rfl
   refine tkP 20 ?_ rfl (fun w'=>?_) hS ?_
   rotate_left
   ·
    skip
    go_simp
    try with_reducible rfl
   refine wpAnyL_late (i:=21) (by kernel_rfl) rfl (by kernel_rfl) (fun K hK=>?_)
   clear hS
   go_simp
   go_wp2_with fail
   refine hK.out _ _ ?_
   clear hK K f1 y1 y2
   try simp only[List.getElem_toArray,List.getElem_cons_succ,List.getElem_cons_zero,Act.put,List.setIfInBounds_toArray,List.set_cons_zero,List.set_cons_succ]
   refine late_free _ _ _ _ (by kernel_rfl) ?_
   have hS:(fun _:World=>True) V4:=trivial
   refine tkH 22 ?_ rfl (fun w' hS=>?_) hS ?_
   rotate_left
   ·
    skip
    go_simp
    try with_reducible rfl
   refine rdH 23 rfl (fun K hK=>?_)
   clear hS
   go_simp
   go_wp2_with fail
   refine hKo hK trivial (fun hS=>?_)
   clear hK K f3 y3
   refine wpAnyH_done (by kernel_rfl) ?_ _
   clear hS
   generalize World.setCell _ _ _=w5 at *
   go_wp2
   go_roundw
   case rel=>exact⟨i+1,by omega,by go_num,hsw2⟩
   case measure=>simp[intOf];omega
  ·have hki:¬(i:Int)<(m:Int):=by omega
   obtain rfl:i=m:=by omega
   have hfin:Hid (RangeOut w1 g n (rangeF f a b i) (.returned (.tuple #[])) w3):=Hd ⟨rfl,hSi.out⟩
   go_wp2
   go_end0
   exact hfin.out
def RotOut(w1:World)(g n:Nat)(f:Nat→Px)(a m b:Nat)(e:Ending)(w':World):Prop:=e=.returned (.tuple #[])∧∃f',SW w1 w' g n f'∧Rot f f' a m b
theorem rot_ok{w0:World}{N n a m b:Nat}{f f':Nat→Px}(h:okF w0 N n f)(hr:Rot f f' a m b)(h1:a≤m)(h2:m≤b)(hb:b≤n):okF w0 N n f':=fun j hj=>by
 by_cases hin:a≤j∧j<b
 ·have h1:f' j∈seg f' a b:=mem_seg.2 ⟨j,hin.1,hin.2,rfl⟩
  rw[hr.2]at h1
  rcases List.mem_append.1 h1 with h1|h1
  ·obtain⟨k,k1,k2,e⟩:=mem_seg.1 h1
   rw[←e];exact h k (by omega)
  ·obtain⟨k,k1,k2,e⟩:=mem_seg.1 h1
   rw[←e];exact h k (by omega)
 ·rw[hr.1 j hin]
  exact h j hj
theorem rotate_any(w0 w1:World)(N g n cap:Nat)(p q:Value)(hn:n≤1048576)(hcap:n≤cap)(a m b:Nat)(ham:a<m)(hmb:m<b)(hbn:b≤n)(w:World)(f:Nat→Px)(hS:SW w1 w g n f)(hok:okF w0 N n f):
 Calls Tryz.prog 182 #[.slice (some ⟨g,0,none⟩) n cap,.int .i64 a,.int .i64 m,.int .i64 b,.func (.func 82) #[] #[p,q]] w (RotOut w1 g n f a m b):=by
 have hni:(n:Int)≤1048576:=by omega
 have hw1:IntKind.i64.wrap ((m:Int)-(a:Int))=((m-a:Nat):Int):=by rw[IntWalk.i64_in _ (by omega)];omega
 have hw2:IntKind.i64.wrap ((b:Int)-(m:Int))=((b-m:Nat):Int):=by rw[IntWalk.i64_in _ (by omega)];omega
 have hR0:Hid (RotI f f a m b (m-a) (b-m)):=Hd (rot_start f ham hmb)
 replace hS:=Hd hS
 replace hok:=Hd hok
 obtain⟨i0,hi0⟩:∃k,m-a=k:=⟨_,rfl⟩
 obtain⟨j0,hj0⟩:∃k,b-m=k:=⟨_,rfl⟩
 rw[hi0]at hw1 hR0
 rw[hj0]at hw2 hR0
 have hcr:=Hd (fun(c d k:Nat) (h1:c+k≤d) (h2:d+k≤n) (W:World) (F:Nat→Px) (hF:SW w1 W g n F) (ho:okF w0 N n F)=>swapRange_any w0 w1 N g n cap p q hn hcap c d k h1 h2 W F hF ho)
 go_enter Tryz.func182,Tryz.ntmps182
 go_wp2
 go_loopw [10,11] (fun v u wr=>∃(i j:Nat) (F:Nat→Px),v=.int .i64 (i:Int)∧u=.int .i64 (j:Int)∧Hid (SW w1 wr g n F)∧Hid (okF w0 N n F)∧Hid (RotI f F a m b i j)) (fun v u _=>(intOf v).toNat+(intOf u).toNat)
 case atStart=>exact⟨i0,j0,f,rfl,rfl,hS,hok,hR0⟩
 case round=>
  clear hS hok hR0 hw1 hw2
  obtain⟨i,j,F,rfl,rfl,hSi,hok,hR⟩:=hrel
  obtain⟨w3,rfl⟩:∃z:World,z=wr:=⟨_,rfl⟩
  obtain⟨b1,b2,b3,b4,-,-⟩:=hR.out
  have hmi:IntKind.i64.wrap ((m:Int)-(i:Int))=((m-i:Nat):Int):=by rw[IntWalk.i64_in _ (by omega)];omega
  rcases Nat.lt_trichotomy i j with hij|hij|hij
  ·have hne:((i:Int) != (j:Int))=true:=bne_iff_ne.2 (by omega)
   have hgt:¬(j:Int)<(i:Int):=by omega
   have hgn:¬j<i:=by omega
   have hmj:IntKind.i64.wrap ((m:Int)+(j:Int))=(m:Int)+(j:Int):=IntWalk.i64_in _ (by omega)
   have hmji:IntKind.i64.wrap ((m:Int)+(j:Int)-(i:Int))=((m+j-i:Nat):Int):=by rw[IntWalk.i64_in _ (by omega)];omega
   have hjw:IntKind.i64.wrap ((j:Int)-(i:Int))=((j-i:Nat):Int):=by rw[IntWalk.i64_in _ (by omega)];omega
   have hc:=Hd (hcr.out (m-i) (m+j-i) i (by omega) (by omega) w3 F hSi.out hok.out)
   have hR2:=Hd (rot_less hR.out hij)
   have hok2:=Hd (range_ok (a:=m-i) (b:=m+j-i) (m:=i) hok.out (by omega) (by omega))
   clear hSi hok hR
   go_wp2_with fail
   refine hc.out.mono ?_
   rintro e w4 ⟨rfl,hS4⟩
   replace hS4:=Hd hS4
   clear hc
   go_wp2
   go_roundw
   case rel=>exact⟨i,j-i,_,rfl,rfl,hS4,hok2,hR2⟩
   case measure=>simp[intOf];omega
  ·subst hij
   have hne:((i:Int) != (i:Int))=false:=by simp
   have hc:=Hd (hcr.out (m-i) m i (by omega) (by omega) w3 F hSi.out hok.out)
   have hR2:=Hd (rot_end hR.out)
   clear hSi hok hR
   go_wp2_with fail
   refine hc.out.mono ?_
   rintro e w4 ⟨rfl,hS4⟩
   have hfin:Hid (RotOut w1 g n f a m b (.returned (.tuple #[])) w4):=Hd ⟨rfl,_,hS4,hR2.out⟩
   clear hc hS4
   go_wp2
   go_end0
   exact hfin.out
  ·have hne:((i:Int) != (j:Int))=true:=bne_iff_ne.2 (by omega)
   have hgt:(j:Int)<(i:Int):=by omega
   have hgn:j<i:=hij
   have hjw:IntKind.i64.wrap ((i:Int)-(j:Int))=((i-j:Nat):Int):=by rw[IntWalk.i64_in _ (by omega)];omega
   have hc:=Hd (hcr.out (m-i) m j (by omega) (by omega) w3 F hSi.out hok.out)
   have hR2:=Hd (rot_more hR.out hij)
   have hok2:=Hd (range_ok (a:=m-i) (b:=m) (m:=j) hok.out (by omega) (by omega))
   clear hSi hok hR
   go_wp2_with fail
   refine hc.out.mono ?_
   rintro e w4 ⟨rfl,hS4⟩
   replace hS4:=Hd hS4
   clear hc
   go_wp2
   go_roundw
   case rel=>exact⟨i-j,j,_,rfl,rfl,hS4,hok2,hR2⟩
   case measure=>simp[intOf];omega
end Go.Proofs.YtidplkfhodpdhaaGreatDoor.stab
