/- Decompose: the world of its loop. -/
import Derived.Test.YtnocncmjdhlmkaaHDec
namespace Go.Proofs.Ytnocncmjdhlmkaa.hyp
open Go.ChangeShapes Go.WideShapes Go.ChangeAt Go.RowKit kit
set_option linter.unusedVariables false
set_option linter.unusedSimpArgs false
theorem imA : IMap Try.prog 79 64 3 .i64 .i64 := ⟨Try.underlying79, Try.underlying64, Try.underlying3, fun w => by kernel_rfl⟩
theorem infoBag : (Try.prog.info? 45).map (fun i => (i.zero, i.size, i.bytes)) = some (some (.agg #[.slice none 0 0, .slice none 0 0, .int .i64 0]), 3, 56) := by kernel_rfl
theorem outS_sum {ms : List Nat} {turn all : Nat} (g : Good ms all) : ∀ i, (∀ j, j < i → outS ms turn all j ≠ 0) → outS ms turn all i + i ≤ all
  | 0, _ => Nat.le_refl _
  | i + 1, h => by
    have h1 := outS_sum g i (fun j hj => h j (by omega))
    have h2 := outS_drop (k := turn) g (h i (by omega))
    omega
theorem own_unique {w : World} {B B' : Nat} {e : TypeId} {s : Nat} {v : Value} {n : Nat} {xs ys : List Value} (h : w.ownsRow B e s v n xs) (k : w.ownsRow B' e s v n ys) : xs = ys := by
  have h1 := h.1
  have k1 := k.1
  rcases h.2 with ⟨rfl, hn⟩ | ⟨g, cap, cur, rfl, _, hh, _, _, _, ht⟩
  · subst hn
    rw [Nat.zero_mul] at h1 k1
    rw [List.eq_nil_of_length_eq_zero h1, List.eq_nil_of_length_eq_zero k1]
  · rcases k.2 with ⟨hv, _⟩ | ⟨g', cap', cur', hv, _, hh', _, _, _, ht'⟩
    · injection hv with h2; cases h2
    · injection hv with h2 h3 h4
      injection h2 with h2
      injection h2 with h2
      subst h2
      rw [hh] at hh'
      injection hh' with h5
      injection h5 with h5
      rw [← ht, ← ht', h5]
/-- The world while bags are told: wL is where that began. -/
structure DS (w0 wL w : World) (wb gb mb kb lb ab turn : Nat) (ns : List ByteArray) (ms : List Nat) (fw fl : Int → Option Int) (all i : Nat) (f : Int → Option Int) (lv : Value) : Prop where
  below0 : Below w0.heap.size w0 wL
  keep : Keep [mb, ab] wL w
  wmL : WM wL wb gb mb kb lb turn ns ms fw fl
  kn : KN w mb ms
  wi : WI ms turn fw fl
  has : outS ms turn all i ≠ 0 → (fw ((outS ms turn all i : Nat) : Int)).isSome = true
  mat : MapI Try.prog 64 3 .i64 .i64 w ab i f
  matL : ∃ es clock, wL.heap[ab]? = some (.map es clock)
  atf : ∀ u : Nat, u < 16 → (f (u : Int)).getD 0 = ((atS ms turn all i u : Nat) : Int)
  m1 : ab ≠ mb
  m2 : ab ≠ kb
  m3 : ab ≠ lb
  b1 : w0.heap.size ≤ mb
  b2 : w0.heap.size ≤ ab
  bags : BagsO w wL.heap.size lv (bagsR ns ms turn all i)
section
variable {w0 wL w w' : World} {wb gb mb kb lb ab turn : Nat} {ns : List ByteArray} {ms : List Nat} {fw fl : Int → Option Int} {all i : Nat} {f : Int → Option Int} {lv : Value}
theorem DS.below (h : DS w0 wL w wb gb mb kb lb ab turn ns ms fw fl all i f lv) : Below w0.heap.size w0 w :=
  h.below0.trans (h.keep.under w0.heap.size h.below0.size (fun x hx => by
    simp only [List.mem_cons, List.not_mem_nil, or_false] at hx
    have := h.b1
    have := h.b2
    rcases hx with rfl | rfl <;> omega))
theorem wm_of {m a : Nat} (hL : WM wL wb gb mb kb lb turn ns ms fw fl) (hk : Keep [mb, ab] wL w) (hn : KN w mb ms) (hm : ∃ es clock, wL.heap[ab]? = some (.map es clock)) (m2 : ab ≠ kb) (m3 : ab ≠ lb) : WM w wb gb mb kb lb turn ns ms fw fl := by
  have hst : CellsStay wL w := stay_of_keep hk fun x hx => by
    simp only [List.mem_cons, List.not_mem_nil, or_false] at hx
    rcases hx with rfl | rfl
    · exact hL.g.known.isMap
    · exact hm
  exact ⟨hst.blk hL.blk, hL.g.stay hst hk.size hn, hL.mw.same (hk.block _ hL.mw.lt (by simp [hL.n1.symm, m2.symm])), hL.ml.same (hk.block _ hL.ml.lt (by simp [hL.n2.symm, m3.symm])), hL.n1, hL.n2, hL.n3⟩
theorem DS.wm (h : DS w0 wL w wb gb mb kb lb ab turn ns ms fw fl all i f lv) : WM w wb gb mb kb lb turn ns ms fw fl := wm_of (m := 0) (a := 0) h.wmL h.keep h.kn h.matL h.m2 h.m3
theorem DS.on (h : DS w0 wL w wb gb mb kb lb ab turn ns ms fw fl all i f lv) (hb : Below w.heap.size w w') : DS w0 wL w' wb gb mb kb lb ab turn ns ms fw fl all i f lv :=
  ⟨h.below0, h.keep.trans ((Keep.ofBelow hb).mono (m' := [mb, ab]) (by simp)) (fun x hx _ => hx), h.wmL, h.kn.same (hb.block _ h.kn.lt), h.wi, h.has, h.mat.same (hb.block _ h.mat.lt), h.matL, h.atf, h.m1, h.m2, h.m3, h.b1, h.b2, h.bags.below hb⟩
/-- A bag more: its number noted (w1), told (w2), appended (w3). -/
theorem DS.next (h : DS w0 wL w wb gb mb kb lb ab turn ns ms fw fl all i f lv) (g : Good ms all) (h0 : outS ms turn all i ≠ 0) {w1 w2 w3 : World} {lv' vv ve : Value}
    (hm : MapI Try.prog 64 3 .i64 .i64 w1 ab (i + 1) (upd f ((vS ms turn all i : Nat) : Int) (i : Int))) (hg : w.grownBy w1 (some ab))
    (hk : Keep [mb] w1 w2) (hn : KN w2 mb ms) (hv : w2.ownsRow wL.heap.size 9 1 vv (bagI ns ms turn all i).names.length (textsV (bagI ns ms turn all i).names)) (he : w2.ownsRow wL.heap.size 3 1 ve (bagI ns ms turn all i).edges.length (numsV (bagI ns ms turn all i).edges))
    (o : Obj) (xs : List Value) (hxs : w2.ownsRow wL.heap.size 45 3 lv i xs)
    (h3 : w3.ownsRow wL.heap.size 45 3 lv' (i + 1) (xs ++ bagV vv ve (bagI ns ms turn all i).parent)) (hg3 : (w2.alloc o).grownBy w3 lv.ownBlock) :
    DS w0 wL w3 wb gb mb kb lb ab turn ns ms fw fl all (i + 1) (upd f ((vS ms turn all i : Nat) : Int) (i : Int)) lv' := by
  have hka : Keep [ab] w w1 := (Keep.refl [ab] w).grown hg (fun k hk _ => by cases hk; simp)
  have hal := (Keep.refl [] w2).alloc o
  have hlow : ∀ k, lv.ownBlock = some k → wL.heap.size ≤ k := fun k hk => (hxs.lt k hk).1
  have hk1 : Keep [mb, ab] wL w1 := h.keep.trans (hka.mono (m' := [mb, ab]) (fun x hx _ => by simp at hx; simp [hx])) (fun x hx _ => hx)
  have hk2 : Keep [mb, ab] wL w2 := hk1.trans (hk.mono (m' := [mb, ab]) (fun x hx _ => by simp at hx; simp [hx])) (fun x hx _ => hx)
  have hk3a : Keep [mb, ab] wL (w2.alloc o) := hk2.alloc o
  have hk3 : Keep [mb, ab] wL w3 := hk3a.grown hg3 (fun k hk hlt => by have := hlow k hk; omega)
  have hmbL := h.wmL.g.known.lt
  have habL : ab < wL.heap.size := by obtain ⟨es, c, hc⟩ := h.matL; exact (Array.getElem?_eq_some_iff.1 hc).1
  have hsz2 := hk2.size
  have hnb : ∀ k, k < wL.heap.size → w3.heap[k]? = w2.heap[k]? := fun k hk => by
    rw [hg3.block k (by rw [World.size_alloc]; omega) (fun e => by have := hlow k e.symm; omega)]
    exact Below.heap_alloc _ _ _ (by omega)
  have hmap1 : ∃ es clock, w.heap[ab]? = some (.map es clock) := h.mat.isMap
  have hbags2 : BagsO w2 wL.heap.size lv (bagsR ns ms turn all i) := (h.bags.map hmap1 hg).map (by
    have := hka.block mb h.kn.lt (by simp [h.m1.symm])
    rw [this]
    exact h.kn.isMap) (grown_keep hk)
  have hbl := bagsR_length ns ms turn all i
  have hbags3 := hbags2.push o (bagI ns ms turn all i) hv he (v' := lv') (w1 := w3) (by
    intro ys hys
    rw [hbl] at hys ⊢
    rw [own_unique hys hxs]
    exact h3) hg3
  rw [← bagsR_succ] at hbags3
  refine ⟨h.below0, hk3, h.wmL, hn.same (hnb mb hmbL), h.wi, fun h1 => ?_, (hm.same (hk.block ab hm.lt (by simp [h.m1]))).same (hnb ab habL), h.matL, fun u hu => ?_, h.m1, h.m2, h.m3, h.b1, h.b2, hbags3⟩
  · have h2 := h.has h0
    obtain ⟨v, hv⟩ := Option.isSome_iff_exists.1 h2
    exact (h.wi _ v (outS_lt g i) hv).2.2 (lastN ms turn (outS ms turn all i)) (vS_in g h0) h1
  · rw [atS_succ g h0]
    by_cases hu2 : u = vS ms turn all i
    · rw [if_pos hu2, hu2, upd_same]; rfl
    · rw [if_neg hu2, upd_other _ _ (by omega)]
      exact h.atf u hu
end
theorem BagsO.low {w : World} {B B' : Nat} {v : Value} {bs : List BagD} (h : BagsO w B v bs) (hB : B' ≤ B) : BagsO w B' v bs := by
  obtain ⟨rs, h1, h2, h3⟩ := h
  exact ⟨rs, h1, own_base h2 hB, fun i hi hi' => ⟨own_base (h3 i hi hi').1 hB, own_base (h3 i hi hi').2 hB⟩⟩
theorem own_form3 {w : World} {B : Nat} {e : TypeId} {s : Nat} {v : Value} {n : Nat} {xs : List Value} (h : w.ownsRow B e s v n xs) : ∃ a c, v = .slice a n c := by
  rcases h.2 with ⟨rfl, hn⟩ | ⟨g, cap, cur, rfl, _⟩
  · exact ⟨none, 0, by rw [hn]⟩
  · exact ⟨_, cap, rfl⟩
theorem lastAt_snoc {E : List Nat} {k all i : Nat} (L : List Nat) (u p : Nat) : lastAt E k all i (L ++ [u]) p = max (lastAt E k all i L p) (atS E k all i u) := by
  unfold lastAt
  rw [List.foldl_append]
  rfl
/-- What Decompose hands back. -/
def DecOut (w : World) (E : List (List ByteArray)) (width seed : Int) (e : Ending) (w' : World) : Prop :=
  Below w.heap.size w w' ∧ (
    (¬ (mayR nameB E = true ∧ 1 ≤ width) ∧ e = .returned (.tuple #[.slice none 0 0, .int .i64 1])) ∨
    ((mayR nameB E = true ∧ 1 ≤ width) ∧ width < ((widN (setsR E) (turnOf seed) (allR E) : Nat) : Int) ∧ e = .returned (.tuple #[.slice none 0 0, .int .i64 31])) ∨
    ((mayR nameB E = true ∧ 1 ≤ width) ∧ ((widN (setsR E) (turnOf seed) (allR E) : Nat) : Int) ≤ width ∧ ∃ v bs, e = .returned (.tuple #[v, .int .i64 0]) ∧ BagsO w' w.heap.size v bs ∧
      ((allR E = 0 ∧ bs = [⟨[], [], -1⟩]) ∨ (allR E ≠ 0 ∧ ∃ M, outS (setsR E) (turnOf seed) (allR E) M = 0 ∧ (∀ i, i < M → outS (setsR E) (turnOf seed) (allR E) i ≠ 0) ∧ bs = bagsR (varsR E) (setsR E) (turnOf seed) (allR E) M))))
end Go.Proofs.Ytnocncmjdhlmkaa.hyp
