/- Contract of the reference's two. -/
import Derived.Test.YthecgifgjagmaaaGreatDoorRefRead
import Derived.Deep.RegionHeld3
namespace Go.Proofs.YthecgifgjagmaaaGreatDoor.dec
open Go.ChangeShapes Go.WideShapes Go.ChangeAt Go.RowKit kit
set_option linter.unusedVariables false
set_option linter.unusedSimpArgs false
/-- What stays: the two boxes. -/
def T2S (g h : Nat) (c d : Array Value) (V : World) : Prop := Blk V g c 98 ∧ Blk V h d 98
/-- What the parts of a number are. -/
def NumM (o : Option (Bool × Nat × Nat)) (n : Bool) (D : List Nat) (sc L : Nat) : Prop := match o with
  | none => True
  | some p => p.1 = n ∧ vL D = p.2.1 ∧ sc = p.2.2 ∧ dgs D ∧ 1 ≤ D.length ∧ D.length ≤ L ∧ sc ≤ L
/-- A number as a value: what parsed hands back, right or wrong. -/
def NumV (w : World) (x : Value) (o : Option (Bool × Nat × Nat)) (L : Nat) : Prop := ∃ (n : Bool) (v : Value) (D : List Nat) (sc : Nat), x = .agg #[.bool n, v, .int .i64 sc] ∧ IntsAt w v D ∧ NumM o n D sc L
theorem NumV.below {w w' : World} {x : Value} {o : Option (Bool × Nat × Nat)} {L : Nat} (h : NumV w x o L) (hb : Below w.heap.size w w') : NumV w' x o L := by
  obtain ⟨n, v, D, sc, hx, hi, hm⟩ := h
  exact ⟨n, v, D, sc, hx, hi.below hb, hm⟩
theorem ParseR.num {w w' : World} {o : Option (Bool × Nat × Nat)} {L : Nat} {e : Ending} (h : ParseR w o L e w') : Below w.heap.size w w' ∧ ∃ (n : Bool) (v : Value) (D : List Nat) (sc : Nat), e = .returned (.tuple #[.agg #[.bool n, v, .int .i64 sc], .bool o.isSome]) ∧ IntsAt w' v D ∧ NumM o n D sc L ∧ (∀ k, v.ownBlock = some k → w.heap.size ≤ k) := by
  refine ⟨h.1, ?_⟩
  have hr := h.2
  cases o with
  | none => exact ⟨false, .slice none 0 0, [], 0, hr, .inl ⟨rfl, rfl⟩, trivial, fun k hk => by simp [Value.ownBlock] at hk⟩
  | some p =>
    obtain ⟨n, N, sc⟩ := p
    obtain ⟨v, D, he, hi, hd, hv, h1, hl, hsc, hlo⟩ := hr
    exact ⟨n, v, D, sc, he, hi, ⟨rfl, hv, rfl, hd, h1, hl, hsc⟩, hlo⟩
theorem chk_some {l : List UInt8} (h : chk l = true) : (numP l).isSome = true := by
  obtain ⟨z, hz, rfl⟩ := (chk_iff l).1 h
  obtain ⟨N, sc, hn, _⟩ := numP_canon z hz
  rw [hn]; rfl
/-- What holds of the world in two: the results' places, the two numbers' boxes. -/
structure T2 (w V : World) (g h : Nat) (c d : Array Value) : Prop where
  below : Below w.heap.size w V
  b0 : Blk V w.heap.size (numc false (.slice none 0 0) 0) 98
  b1 : Blk V (w.heap.size + 1) (numc false (.slice none 0 0) 0) 98
  bg : Blk V g c 98
  bh : Blk V h d 98
theorem T2.on {w V V' : World} {g h : Nat} {c d : Array Value} (t : T2 w V g h c d) (hb : Below V.heap.size V V') : T2 w V' g h c d :=
  ⟨t.below.trans (hb.mono t.below.size), t.b0.keep (Keep.ofBelow hb) (by simp), t.b1.keep (Keep.ofBelow hb) (by simp), t.bg.keep (Keep.ofBelow hb) (by simp), t.bh.keep (Keep.ofBelow hb) (by simp)⟩
theorem T2.drewN {w V : World} {g h : Nat} {c d : Array Value} (t : T2 w V g h c d) (n : Nat) : T2 w (V.drewN n) g h c d := t.on (below_drewN (Below.refl _ _) n)
theorem T2.held {w V : World} {g h : Nat} {c d : Array Value} (t : T2 w V g h c d) : T2S g h c d V := ⟨t.bg, t.bh⟩
/-- The world behind the two stores, in either order. -/
def st3 (w : World) (b : Nat) (n : Bool) (v : Value) (sc : Nat) : World := ((w.setCell ⟨b, 0, none⟩ (.bool n)).setCell ⟨b, 1, none⟩ v).setCell ⟨b, 2, none⟩ (.int .i64 (sc : Int))
theorem st3_below {w V : World} (h : Below w.heap.size w V) {b : Nat} (hb : w.heap.size ≤ b) (n : Bool) (v : Value) (sc : Nat) : Below w.heap.size w (st3 V b n v sc) :=
  ((h.setCell (p := ⟨b, 0, none⟩) hb _).setCell (p := ⟨b, 1, none⟩) hb _).setCell (p := ⟨b, 2, none⟩) hb _
theorem st3_blk {V : World} {b : Nat} (n : Bool) (v : Value) (sc : Nat) (h : Blk V b (numc false (.slice none 0 0) 0) 98) : Blk (st3 V b n v sc) b (numc n v sc) 98 := ((h.set 0 _).set 1 _).set 2 _
theorem st3_other {V : World} {b b' : Nat} {cs : Array Value} {t : TypeId} (n : Bool) (v : Value) (sc : Nat) (h : Blk V b' cs t) (hne : b' ≠ b) : Blk (st3 V b n v sc) b' cs t := ((h.set_other _ hne _).set_other _ hne _).set_other _ hne _
theorem st3_ints {V : World} {b : Nat} {u : Value} {D : List Nat} (n : Bool) (v : Value) (sc : Nat) (h : IntsAt V u D) (hne : ∀ k, u.ownBlock = some k → k ≠ b) : IntsAt (st3 V b n v sc) u D := by
  rcases h with h | ⟨g, off, cap, rfl, hlt, hc⟩
  · exact .inl h
  · have hg : g ≠ b := hne g rfl
    have hs : (st3 V b n v sc).heap[g]? = V.heap[g]? := by
      unfold st3
      rw [heap_setCell_other _ ⟨b, 2, none⟩ g _ hg, heap_setCell_other _ ⟨b, 1, none⟩ g _ hg, heap_setCell_other _ ⟨b, 0, none⟩ g _ hg]
    refine .inr ⟨g, off, cap, rfl, ?_, fun j hj => ?_⟩
    · have h1 : V.heap[g]?.isSome := by rw [Array.getElem?_eq_getElem hlt]; rfl
      rw [← hs] at h1
      rcases Nat.lt_or_ge g (st3 V b n v sc).heap.size with h2 | h2
      · exact h2
      · rw [Array.getElem?_eq_none h2] at h1; cases h1
    · exact (World.cell?_of_block (a := ⟨g, off + j, none⟩) hs).trans (hc j hj)
set_option maxRecDepth 100000 in
set_option maxHeartbeats 4000000 in
theorem two_any (a b : ByteArray) (w : World) (ha : a.size ≤ 50000) (hb : b.size ≤ 50000) :
    Calls Tryz.prog 81 #[.string a, .string b] w fun e w' => ∃ x y, e = .returned (.tuple #[x, y, .bool (chk a.data.toList && chk b.data.toList)]) ∧ Below w.heap.size w w' ∧ NumV w' x (numP a.data.toList) a.size ∧ NumV w' y (numP b.data.toList) b.size := by
  have hpa := Lib.hid (fun w => parsed_any a w ha)
  have hpb := Lib.hid (fun w => parsed_any b w hb)
  have hca := Lib.hid (fun w => rcheck_any a w ha)
  have hcb := Lib.hid (fun w => rcheck_any b w hb)
  have hsa := @chk_some a.data.toList
  have hsb := @chk_some b.data.toList
  obtain ⟨ca, hcae⟩ : ∃ c, chk a.data.toList = c := ⟨_, rfl⟩
  obtain ⟨cb, hcbe⟩ : ∃ c, chk b.data.toList = c := ⟨_, rfl⟩
  obtain ⟨oa, hoa⟩ : ∃ o, numP a.data.toList = o := ⟨_, rfl⟩
  obtain ⟨ob, hob⟩ : ∃ o, numP b.data.toList = o := ⟨_, rfl⟩
  rw [hcae, hoa] at hsa
  rw [hcbe, hob] at hsb
  rw [hcae] at hca
  rw [hcbe] at hcb
  rw [hoa] at hpa
  rw [hob] at hpb
  rw [hoa, hob, hcae, hcbe]
  clear hcae hcbe hoa hob
  replace hsa := Lib.hid hsa
  replace hsb := Lib.hid hsb
  go_enter Tryz.func81, Tryz.ntmps81
  go_upto_region 1 with (fail)
  have g0 := GW.made w
  have k0 : Below w.heap.size w ((w.alloc (.cells #[.bool false, .slice none 0 0, .int .i64 0] 98)).alloc (.cells #[.bool false, .slice none 0 0, .int .i64 0] 98)) := g0.below
  have b0 : Blk ((w.alloc (.cells #[.bool false, .slice none 0 0, .int .i64 0] 98)).alloc (.cells #[.bool false, .slice none 0 0, .int .i64 0] 98)) w.heap.size (numc false (.slice none 0 0) 0) 98 := g0.b0
  have b1 : Blk ((w.alloc (.cells #[.bool false, .slice none 0 0, .int .i64 0] 98)).alloc (.cells #[.bool false, .slice none 0 0, .int .i64 0] 98)) (w.heap.size + 1) (numc false (.slice none 0 0) 0) 98 := g0.b1
  clear g0
  generalize ((w.alloc (.cells #[.bool false, .slice none 0 0, .int .i64 0] 98)).alloc (.cells #[.bool false, .slice none 0 0, .int .i64 0] 98)) = W at *
  have hW2 := b1.lt
  replace k0 := Lib.hid k0
  replace b0 := Lib.hid b0
  replace b1 := Lib.hid b1
  go_wp2_with fail
  refine (hpa.out _).mono ?_
  rintro e w1 hr
  obtain ⟨hb1, n1, v1, D1, sc1, rfl, hi1, hm1, hl1⟩ := hr.num
  obtain ⟨vo1, vc1, rfl⟩ := hi1.form
  clear hr
  have hlx : ∀ k, (Value.slice vo1 D1.length vc1).ownBlock = some k → w.heap.size + 1 < k := fun k hk => by have := hl1 k hk; omega
  have hb1s := hb1.size
  replace hb1 := Lib.hid hb1
  replace hi1 := Lib.hid hi1
  replace hm1 := Lib.hid hm1
  go_wp2_with fail
  obtain ⟨w2, hw2⟩ : ∃ w2, w2 = w1.alloc (.cells #[.bool n1, .slice vo1 D1.length vc1, .int .i64 sc1] 98) := ⟨_, rfl⟩
  have hb2 : Below w1.heap.size w1 w2 := by rw [hw2]; exact (Below.refl _ _).alloc (Nat.le_refl _) _
  have bg2 : Blk w2 w1.heap.size (numc n1 (.slice vo1 D1.length vc1) sc1) 98 := by rw [hw2]; exact Blk.new _ _ _
  rw [← hw2]
  clear hw2
  replace hb2 := Lib.hid hb2
  replace bg2 := Lib.hid bg2
  refine (hpb.out w2).mono ?_
  rintro e w3 hr
  obtain ⟨hb3, n2, v2, D2, sc2, rfl, hi2, hm2, hl2⟩ := hr.num
  obtain ⟨vo2, vc2, rfl⟩ := hi2.form
  clear hr
  have hly : ∀ k, (Value.slice vo2 D2.length vc2).ownBlock = some k → w.heap.size + 1 < k := fun k hk => by have := hl2 k hk; have := hb2.out.size; omega
  replace hb3 := Lib.hid hb3
  replace hi2 := Lib.hid hi2
  replace hm2 := Lib.hid hm2
  replace hlx := Lib.hid hlx
  replace hly := Lib.hid hly
  clear hl1 hl2
  go_upto_region 3 with (fail)
  obtain ⟨w4, hw4⟩ : ∃ w4, w4 = w3.alloc (.cells #[.bool n2, .slice vo2 D2.length vc2, .int .i64 sc2] 98) := ⟨_, rfl⟩
  have hb4 : Below w3.heap.size w3 w4 := by rw [hw4]; exact (Below.refl _ _).alloc (Nat.le_refl _) _
  have bh4 : Blk w4 w3.heap.size (numc n2 (.slice vo2 D2.length vc2) sc2) 98 := by rw [hw4]; exact Blk.new _ _ _
  rw [← hw4]
  clear hw4
  have ks : Below W.heap.size W w4 := ((hb1.out.trans (hb2.out.mono hb1.out.size)).trans (hb3.out.mono (Nat.le_trans hb1.out.size hb2.out.size))).trans (hb4.mono (Nat.le_trans hb1.out.size (Nat.le_trans hb2.out.size hb3.out.size)))
  have tw : T2 w w4 w1.heap.size w3.heap.size (numc n1 (.slice vo1 D1.length vc1) sc1) (numc n2 (.slice vo2 D2.length vc2) sc2) :=
    ⟨k0.out.trans (ks.mono k0.out.size), b0.out.keep (Keep.ofBelow ks) (by simp), b1.out.keep (Keep.ofBelow ks) (by simp), (bg2.out.keep (Keep.ofBelow hb3.out) (by simp)).keep (Keep.ofBelow hb4) (by simp), bh4⟩
  have hi1' := (hi1.out.below (hb2.out.trans (hb3.out.mono hb2.out.size))).below hb4
  have hi2' := hi2.out.below hb4
  have hg1 : w.heap.size + 1 < w1.heap.size := by have := hb1.out.size; omega
  have hg3 : w.heap.size + 1 < w3.heap.size := by have := hb2.out.size; have := hb3.out.size; omega
  generalize w1.heap.size = g at *
  generalize w3.heap.size = h at *
  clear k0 b0 b1 hb1 hi1 hb2 bg2 hb3 hi2 hb4 bh4 ks
  replace tw := Lib.hid tw
  replace hi1' := Lib.hid hi1'
  replace hi2' := Lib.hid hi2'
  obtain ⟨qa, hqa⟩ : ∃ q, oa.isSome = q := ⟨_, rfl⟩
  obtain ⟨qb, hqb⟩ : ∃ q, ob.isSome = q := ⟨_, rfl⟩
  have hsa2 := hsa.out
  have hsb2 := hsb.out
  rw [hqa] at hsa2
  rw [hqb] at hsb2
  rw [hqa, hqb]
  clear hsa hsb
  have hS0 : T2S g h (numc n1 (.slice vo1 D1.length vc1) sc1) (numc n2 (.slice vo2 D2.length vc2) sc2) w4.drew := (tw.out.drewN 1).held
  refine wp_region_held_drew (S := T2S g h (numc n1 (.slice vo1 D1.length vc1) sc1) (numc n2 (.slice vo2 D2.length vc2) sc2)) (by kernel_rfl) hS0 (fun hS => ?_)
  clear hS0
  have tw9 : Hid (T2 w w4.drew g h (numc n1 (.slice vo1 D1.length vc1) sc1) (numc n2 (.slice vo2 D2.length vc2) sc2)) := tw.out.drewN 1
  have hi19 : Hid (IntsAt w4.drew (.slice vo1 D1.length vc1) D1) := hi1'.out.drewN 1
  have hi29 : Hid (IntsAt w4.drew (.slice vo2 D2.length vc2) D2) := hi2'.out.drewN 1
  clear tw hi1' hi2'
  generalize w4.drew = V0 at *
  refine wpAnyH_take (i := 0) (v := .agg #[.bool n1, .slice vo1 D1.length vc1, .int .i64 sc1]) rfl (by kernel_rfl) (by kernel_rfl) (by kernel_rfl) (fun _ _ _ h => h) (.inl ⟨by kernel_rfl, fun w' hS => by have x0 := hS.1.cell 0 rfl; have x1 := hS.1.cell 1 rfl; have x2 := hS.1.cell 2 rfl; go_simp; try exact ⟨rfl, rfl, rfl⟩⟩) hS ?_; simp only [List.getElem_toArray, List.getElem_cons_succ, List.getElem_cons_zero, Act.put, List.setIfInBounds_toArray, List.set_cons_zero, List.set_cons_succ]
  refine wpAnyH_take (i := 1) (v := .agg #[.bool n2, .slice vo2 D2.length vc2, .int .i64 sc2]) rfl (by kernel_rfl) (by kernel_rfl) (by kernel_rfl) (fun _ _ _ h => h) (.inl ⟨by kernel_rfl, fun w' hS => by have y0 := hS.2.cell 0 rfl; have y1 := hS.2.cell 1 rfl; have y2 := hS.2.cell 2 rfl; go_simp; try exact ⟨rfl, rfl, rfl⟩⟩) hS ?_; simp only [List.getElem_toArray, List.getElem_cons_succ, List.getElem_cons_zero, Act.put, List.setIfInBounds_toArray, List.set_cons_zero, List.set_cons_succ]
  refine wpAnyH_take (i := 2) (v := .bool qa) rfl (by kernel_rfl) (by kernel_rfl) (by kernel_rfl) (fun _ _ _ h => h) (.inl ⟨by kernel_rfl, fun _ _ => by kernel_rfl⟩) hS ?_; simp only [List.getElem_toArray, List.getElem_cons_succ, List.getElem_cons_zero, Act.put, List.setIfInBounds_toArray, List.set_cons_zero, List.set_cons_succ]
  refine wpAnyH_take (i := 3) (v := .bool qa) rfl (by kernel_rfl) (by kernel_rfl) (by kernel_rfl) (fun _ _ _ h => h) (.inl ⟨by kernel_rfl, fun _ _ => by kernel_rfl⟩) hS ?_; simp only [List.getElem_toArray, List.getElem_cons_succ, List.getElem_cons_zero, Act.put, List.setIfInBounds_toArray, List.set_cons_zero, List.set_cons_succ]
  cases qa
  · obtain rfl : ca = false := Bool.eq_false_iff.2 (fun e => by have := hsa2 e; cases this)
    clear hsa2 hsb2
    refine wpAnyH_take (i := 4) (v := undef) rfl (by kernel_rfl) (by kernel_rfl) (by kernel_rfl) (fun _ _ _ h => h) (.inr ⟨by kernel_rfl, rfl⟩) hS ?_; simp only [List.getElem_toArray, List.getElem_cons_succ, List.getElem_cons_zero, Act.put, List.setIfInBounds_toArray, List.set_cons_zero, List.set_cons_succ]
    refine wpAnyH_take (i := 5) (v := .bool false) rfl (by kernel_rfl) (by kernel_rfl) (by kernel_rfl) (fun _ _ _ h => h) (.inl ⟨by kernel_rfl, fun _ _ => by kernel_rfl⟩) hS ?_; simp only [List.getElem_toArray, List.getElem_cons_succ, List.getElem_cons_zero, Act.put, List.setIfInBounds_toArray, List.set_cons_zero, List.set_cons_succ]
    refine wpAnyH_take (i := 6) (v := .bool false) rfl (by kernel_rfl) (by kernel_rfl) (by kernel_rfl) (fun _ _ _ h => h) (.inl ⟨by kernel_rfl, fun _ _ => by kernel_rfl⟩) hS ?_; simp only [List.getElem_toArray, List.getElem_cons_succ, List.getElem_cons_zero, Act.put, List.setIfInBounds_toArray, List.set_cons_zero, List.set_cons_succ]
    refine wpAnyH_take (i := 7) (v := undef) rfl (by kernel_rfl) (by kernel_rfl) (by kernel_rfl) (fun _ _ _ h => h) (.inr ⟨by kernel_rfl, rfl⟩) hS ?_; simp only [List.getElem_toArray, List.getElem_cons_succ, List.getElem_cons_zero, Act.put, List.setIfInBounds_toArray, List.set_cons_zero, List.set_cons_succ]
    refine wpAnyH_take (i := 8) (v := undef) rfl (by kernel_rfl) (by kernel_rfl) (by kernel_rfl) (fun _ _ _ h => h) (.inr ⟨by kernel_rfl, rfl⟩) hS ?_; simp only [List.getElem_toArray, List.getElem_cons_succ, List.getElem_cons_zero, Act.put, List.setIfInBounds_toArray, List.set_cons_zero, List.set_cons_succ]
    refine wpAnyH_take (i := 9) (v := .bool false) rfl (by kernel_rfl) (by kernel_rfl) (by kernel_rfl) (fun _ _ _ h => h) (.inl ⟨by kernel_rfl, fun _ _ => by kernel_rfl⟩) hS ?_; simp only [List.getElem_toArray, List.getElem_cons_succ, List.getElem_cons_zero, Act.put, List.setIfInBounds_toArray, List.set_cons_zero, List.set_cons_succ]
    refine wpAnyH_take (i := 10) (v := .bool false) rfl (by kernel_rfl) (by kernel_rfl) (by kernel_rfl) (fun _ _ _ h => h) (.inl ⟨by kernel_rfl, fun _ _ => by kernel_rfl⟩) hS ?_; simp only [List.getElem_toArray, List.getElem_cons_succ, List.getElem_cons_zero, Act.put, List.setIfInBounds_toArray, List.set_cons_zero, List.set_cons_succ]
    refine wpAnyH_take (i := 11) (v := undef) rfl (by kernel_rfl) (by kernel_rfl) (by kernel_rfl) (fun _ _ _ h => h) (.inr ⟨by kernel_rfl, rfl⟩) hS ?_; simp only [List.getElem_toArray, List.getElem_cons_succ, List.getElem_cons_zero, Act.put, List.setIfInBounds_toArray, List.set_cons_zero, List.set_cons_succ]
    refine wpAnyH_take (i := 12) (v := undef) rfl (by kernel_rfl) (by kernel_rfl) (by kernel_rfl) (fun _ _ _ h => h) (.inr ⟨by kernel_rfl, rfl⟩) hS ?_; simp only [List.getElem_toArray, List.getElem_cons_succ, List.getElem_cons_zero, Act.put, List.setIfInBounds_toArray, List.set_cons_zero, List.set_cons_succ]
    refine wpAnyH_take (i := 13) (v := .bool false) rfl (by kernel_rfl) (by kernel_rfl) (by kernel_rfl) (fun _ _ _ h => h) (.inl ⟨by kernel_rfl, fun _ _ => by kernel_rfl⟩) hS ?_; simp only [List.getElem_toArray, List.getElem_cons_succ, List.getElem_cons_zero, Act.put, List.setIfInBounds_toArray, List.set_cons_zero, List.set_cons_succ]
    have hT : T2 w (V0) g h (numc n1 (.slice vo1 D1.length vc1) sc1) (numc n2 (.slice vo2 D2.length vc2) sc2) := tw9.out
    have hj1 : IntsAt (V0) (.slice vo1 D1.length vc1) D1 := hi19.out
    have hj2 : IntsAt (V0) (.slice vo2 D2.length vc2) D2 := hi29.out
    have x0 : (V0).cell? ⟨g, 0, none⟩ = some (.bool n1) := hT.bg.cell 0 rfl
    have x1 : (V0).cell? ⟨g, 1, none⟩ = some (.slice vo1 D1.length vc1) := hT.bg.cell 1 rfl
    have x2 : (V0).cell? ⟨g, 2, none⟩ = some (.int .i64 sc1) := hT.bg.cell 2 rfl
    have y0 : (V0).cell? ⟨h, 0, none⟩ = some (.bool n2) := hT.bh.cell 0 rfl
    have y1 : (V0).cell? ⟨h, 1, none⟩ = some (.slice vo2 D2.length vc2) := hT.bh.cell 1 rfl
    have y2 : (V0).cell? ⟨h, 2, none⟩ = some (.int .i64 sc2) := hT.bh.cell 2 rfl
    have p0 : (V0).cell? ⟨w.heap.size, 0, none⟩ = some (.bool false) := hT.b0.cell 0 rfl
    have p1 : (V0).cell? ⟨w.heap.size, 1, none⟩ = some (.slice none 0 0) := hT.b0.cell 1 rfl
    have p2 : (V0).cell? ⟨w.heap.size, 2, none⟩ = some (.int .i64 0) := hT.b0.cell 2 rfl
    have q0 : (V0).frozen? ⟨w.heap.size, 0, none⟩ = false := hT.b0.free 0
    have q1 : (V0).frozen? ⟨w.heap.size, 1, none⟩ = false := hT.b0.free 1
    have q2 : (V0).frozen? ⟨w.heap.size, 2, none⟩ = false := hT.b0.free 2
    have r0 : (V0).cell? ⟨w.heap.size + 1, 0, none⟩ = some (.bool false) := hT.b1.cell 0 rfl
    have r1 : (V0).cell? ⟨w.heap.size + 1, 1, none⟩ = some (.slice none 0 0) := hT.b1.cell 1 rfl
    have r2 : (V0).cell? ⟨w.heap.size + 1, 2, none⟩ = some (.int .i64 0) := hT.b1.cell 2 rfl
    have s0 : (V0).frozen? ⟨w.heap.size + 1, 0, none⟩ = false := hT.b1.free 0
    have s1 : (V0).frozen? ⟨w.heap.size + 1, 1, none⟩ = false := hT.b1.free 1
    have s2 : (V0).frozen? ⟨w.heap.size + 1, 2, none⟩ = false := hT.b1.free 2
    have c0 := st3_blk n1 (.slice vo1 D1.length vc1) sc1 hT.b0
    have cg := st3_other n1 (.slice vo1 D1.length vc1) sc1 hT.bg (show g ≠ w.heap.size by omega)
    have ch := st3_other n1 (.slice vo1 D1.length vc1) sc1 hT.bh (show h ≠ w.heap.size by omega)
    have c1 := st3_other n1 (.slice vo1 D1.length vc1) sc1 hT.b1 (show w.heap.size + 1 ≠ w.heap.size by omega)
    have d1 := st3_blk n2 (.slice vo2 D2.length vc2) sc2 c1
    have d0 := st3_other n2 (.slice vo2 D2.length vc2) sc2 c0 (show w.heap.size ≠ w.heap.size + 1 by omega)
    have dg := st3_other n2 (.slice vo2 D2.length vc2) sc2 cg (show g ≠ w.heap.size + 1 by omega)
    have dh := st3_other n2 (.slice vo2 D2.length vc2) sc2 ch (show h ≠ w.heap.size + 1 by omega)
    have hbe := st3_below (st3_below hT.below (Nat.le_refl _) n1 (.slice vo1 D1.length vc1) sc1) (Nat.le_succ _) n2 (.slice vo2 D2.length vc2) sc2
    have hn1 := st3_ints n2 (.slice vo2 D2.length vc2) sc2 (b := w.heap.size + 1) (st3_ints n1 (.slice vo1 D1.length vc1) sc1 (b := w.heap.size) hj1 (fun k hk => by have := hlx.out k hk; omega)) (fun k hk => by have := hlx.out k hk; omega)
    have hn2 := st3_ints n2 (.slice vo2 D2.length vc2) sc2 (b := w.heap.size + 1) (st3_ints n1 (.slice vo1 D1.length vc1) sc1 (b := w.heap.size) hj2 (fun k hk => by have := hly.out k hk; omega)) (fun k hk => by have := hly.out k hk; omega)
    have hSa : T2S g h (numc n1 (.slice vo1 D1.length vc1) sc1) (numc n2 (.slice vo2 D2.length vc2) sc2) (st3 (V0) w.heap.size n1 (.slice vo1 D1.length vc1) sc1) := ⟨cg, ch⟩
    have hSb : T2S g h (numc n1 (.slice vo1 D1.length vc1) sc1) (numc n2 (.slice vo2 D2.length vc2) sc2) (st3 (st3 (V0) w.heap.size n1 (.slice vo1 D1.length vc1) sc1) (w.heap.size + 1) n2 (.slice vo2 D2.length vc2) sc2) := ⟨dg, dh⟩
    clear c0 cg ch dg dh hj1 hj2 hT
    replace c1 := Lib.hid c1
    replace d0 := Lib.hid d0
    replace d1 := Lib.hid d1
    replace hbe := Lib.hid hbe
    replace hn1 := Lib.hid hn1
    replace hn2 := Lib.hid hn2
    replace hSa := Lib.hid hSa
    replace hSb := Lib.hid hSb
    refine wpAnyH_ready (rs := [14]) (by kernel_rfl) (by simp) ?_
    refine AllReadyH.cons rfl (fun K hK => ?_) AllReadyH.nil
    clear hS
    go_simp
    refine hK.out _ (st3 (V0) w.heap.size n1 (.slice vo1 D1.length vc1) sc1) hSa.out (fun hS => ?_)
    clear hK K
    clear x0 x1 x2 y0 y1 y2 p0 p1 p2 q0 q1 q2 r0 r1 r2 s0 s1 s2 hSa
    generalize st3 (V0) w.heap.size n1 (.slice vo1 D1.length vc1) sc1 = V1 at *
    have r0 : V1.cell? ⟨w.heap.size + 1, 0, none⟩ = some (.bool false) := c1.out.cell 0 rfl
    have r1 : V1.cell? ⟨w.heap.size + 1, 1, none⟩ = some (.slice none 0 0) := c1.out.cell 1 rfl
    have r2 : V1.cell? ⟨w.heap.size + 1, 2, none⟩ = some (.int .i64 0) := c1.out.cell 2 rfl
    have s0 : V1.frozen? ⟨w.heap.size + 1, 0, none⟩ = false := c1.out.free 0
    have s1 : V1.frozen? ⟨w.heap.size + 1, 1, none⟩ = false := c1.out.free 1
    have s2 : V1.frozen? ⟨w.heap.size + 1, 2, none⟩ = false := c1.out.free 2
    try simp only [List.getElem_toArray, List.getElem_cons_succ, List.getElem_cons_zero, Act.put, List.setIfInBounds_toArray, List.set_cons_zero, List.set_cons_succ]
    refine wpAnyH_ready (rs := [15]) (by kernel_rfl) (by simp) ?_
    refine AllReadyH.cons rfl (fun K hK => ?_) AllReadyH.nil
    clear hS
    go_simp
    refine hK.out _ (st3 V1 (w.heap.size + 1) n2 (.slice vo2 D2.length vc2) sc2) hSb.out (fun hS => ?_)
    clear hK K
    try simp only [List.getElem_toArray, List.getElem_cons_succ, List.getElem_cons_zero, Act.put, List.setIfInBounds_toArray, List.set_cons_zero, List.set_cons_succ]
    refine wpAnyH_take (i := 16) (v := .bool false) rfl (by kernel_rfl) (by kernel_rfl) (by kernel_rfl) (fun _ _ _ h => h) (.inl ⟨by kernel_rfl, fun _ _ => by kernel_rfl⟩) hS ?_; simp only [List.getElem_toArray, List.getElem_cons_succ, List.getElem_cons_zero, Act.put, List.setIfInBounds_toArray, List.set_cons_zero, List.set_cons_succ]
    refine wpAnyH_done (by kernel_rfl) ?_ _
    go_wp2_with fail
    exact bodyPost_ret (v := .tuple #[.agg (numc n1 (.slice vo1 D1.length vc1) sc1), .agg (numc n2 (.slice vo2 D2.length vc2) sc2), .bool false]) (res3 rfl _ _ w.heap.size (w.heap.size + 1) 98 98 _ _ (0, 0) (0, 0) _ _ _ rfl rfl d0.out.eq rfl d1.out.eq Tryz.underlying98 rfl infoNum Tryz.underlying98 rfl infoNum) rfl
      ⟨_, _, rfl, hbe.out, ⟨n1, _, D1, sc1, rfl, hn1.out, hm1.out⟩, ⟨n2, _, D2, sc2, rfl, hn2.out, hm2.out⟩⟩
  · clear hsa2
    cases qb
    · obtain rfl : cb = false := Bool.eq_false_iff.2 (fun e => by have := hsb2 e; cases this)
      clear hsb2
      have hcf : (ca && false) = false := Bool.and_false _
      rw [hcf] at *
      refine wpAnyH_take (i := 4) (v := .bool false) rfl (by kernel_rfl) (by kernel_rfl) (by kernel_rfl) (fun _ _ _ h => h) (.inl ⟨by kernel_rfl, fun _ _ => by kernel_rfl⟩) hS ?_; simp only [List.getElem_toArray, List.getElem_cons_succ, List.getElem_cons_zero, Act.put, List.setIfInBounds_toArray, List.set_cons_zero, List.set_cons_succ]
      refine wpAnyH_take (i := 5) (v := .bool false) rfl (by kernel_rfl) (by kernel_rfl) (by kernel_rfl) (fun _ _ _ h => h) (.inl ⟨by kernel_rfl, fun _ _ => by kernel_rfl⟩) hS ?_; simp only [List.getElem_toArray, List.getElem_cons_succ, List.getElem_cons_zero, Act.put, List.setIfInBounds_toArray, List.set_cons_zero, List.set_cons_succ]
      refine wpAnyH_take (i := 6) (v := .bool false) rfl (by kernel_rfl) (by kernel_rfl) (by kernel_rfl) (fun _ _ _ h => h) (.inl ⟨by kernel_rfl, fun _ _ => by kernel_rfl⟩) hS ?_; simp only [List.getElem_toArray, List.getElem_cons_succ, List.getElem_cons_zero, Act.put, List.setIfInBounds_toArray, List.set_cons_zero, List.set_cons_succ]
      refine wpAnyH_take (i := 7) (v := undef) rfl (by kernel_rfl) (by kernel_rfl) (by kernel_rfl) (fun _ _ _ h => h) (.inr ⟨by kernel_rfl, rfl⟩) hS ?_; simp only [List.getElem_toArray, List.getElem_cons_succ, List.getElem_cons_zero, Act.put, List.setIfInBounds_toArray, List.set_cons_zero, List.set_cons_succ]
      refine wpAnyH_take (i := 8) (v := undef) rfl (by kernel_rfl) (by kernel_rfl) (by kernel_rfl) (fun _ _ _ h => h) (.inr ⟨by kernel_rfl, rfl⟩) hS ?_; simp only [List.getElem_toArray, List.getElem_cons_succ, List.getElem_cons_zero, Act.put, List.setIfInBounds_toArray, List.set_cons_zero, List.set_cons_succ]
      refine wpAnyH_take (i := 9) (v := .bool false) rfl (by kernel_rfl) (by kernel_rfl) (by kernel_rfl) (fun _ _ _ h => h) (.inl ⟨by kernel_rfl, fun _ _ => by kernel_rfl⟩) hS ?_; simp only [List.getElem_toArray, List.getElem_cons_succ, List.getElem_cons_zero, Act.put, List.setIfInBounds_toArray, List.set_cons_zero, List.set_cons_succ]
      refine wpAnyH_take (i := 10) (v := .bool false) rfl (by kernel_rfl) (by kernel_rfl) (by kernel_rfl) (fun _ _ _ h => h) (.inl ⟨by kernel_rfl, fun _ _ => by kernel_rfl⟩) hS ?_; simp only [List.getElem_toArray, List.getElem_cons_succ, List.getElem_cons_zero, Act.put, List.setIfInBounds_toArray, List.set_cons_zero, List.set_cons_succ]
      refine wpAnyH_take (i := 11) (v := undef) rfl (by kernel_rfl) (by kernel_rfl) (by kernel_rfl) (fun _ _ _ h => h) (.inr ⟨by kernel_rfl, rfl⟩) hS ?_; simp only [List.getElem_toArray, List.getElem_cons_succ, List.getElem_cons_zero, Act.put, List.setIfInBounds_toArray, List.set_cons_zero, List.set_cons_succ]
      refine wpAnyH_take (i := 12) (v := undef) rfl (by kernel_rfl) (by kernel_rfl) (by kernel_rfl) (fun _ _ _ h => h) (.inr ⟨by kernel_rfl, rfl⟩) hS ?_; simp only [List.getElem_toArray, List.getElem_cons_succ, List.getElem_cons_zero, Act.put, List.setIfInBounds_toArray, List.set_cons_zero, List.set_cons_succ]
      refine wpAnyH_take (i := 13) (v := .bool false) rfl (by kernel_rfl) (by kernel_rfl) (by kernel_rfl) (fun _ _ _ h => h) (.inl ⟨by kernel_rfl, fun _ _ => by kernel_rfl⟩) hS ?_; simp only [List.getElem_toArray, List.getElem_cons_succ, List.getElem_cons_zero, Act.put, List.setIfInBounds_toArray, List.set_cons_zero, List.set_cons_succ]
      have hT : T2 w (V0) g h (numc n1 (.slice vo1 D1.length vc1) sc1) (numc n2 (.slice vo2 D2.length vc2) sc2) := tw9.out
      have hj1 : IntsAt (V0) (.slice vo1 D1.length vc1) D1 := hi19.out
      have hj2 : IntsAt (V0) (.slice vo2 D2.length vc2) D2 := hi29.out
      have x0 : (V0).cell? ⟨g, 0, none⟩ = some (.bool n1) := hT.bg.cell 0 rfl
      have x1 : (V0).cell? ⟨g, 1, none⟩ = some (.slice vo1 D1.length vc1) := hT.bg.cell 1 rfl
      have x2 : (V0).cell? ⟨g, 2, none⟩ = some (.int .i64 sc1) := hT.bg.cell 2 rfl
      have y0 : (V0).cell? ⟨h, 0, none⟩ = some (.bool n2) := hT.bh.cell 0 rfl
      have y1 : (V0).cell? ⟨h, 1, none⟩ = some (.slice vo2 D2.length vc2) := hT.bh.cell 1 rfl
      have y2 : (V0).cell? ⟨h, 2, none⟩ = some (.int .i64 sc2) := hT.bh.cell 2 rfl
      have p0 : (V0).cell? ⟨w.heap.size, 0, none⟩ = some (.bool false) := hT.b0.cell 0 rfl
      have p1 : (V0).cell? ⟨w.heap.size, 1, none⟩ = some (.slice none 0 0) := hT.b0.cell 1 rfl
      have p2 : (V0).cell? ⟨w.heap.size, 2, none⟩ = some (.int .i64 0) := hT.b0.cell 2 rfl
      have q0 : (V0).frozen? ⟨w.heap.size, 0, none⟩ = false := hT.b0.free 0
      have q1 : (V0).frozen? ⟨w.heap.size, 1, none⟩ = false := hT.b0.free 1
      have q2 : (V0).frozen? ⟨w.heap.size, 2, none⟩ = false := hT.b0.free 2
      have r0 : (V0).cell? ⟨w.heap.size + 1, 0, none⟩ = some (.bool false) := hT.b1.cell 0 rfl
      have r1 : (V0).cell? ⟨w.heap.size + 1, 1, none⟩ = some (.slice none 0 0) := hT.b1.cell 1 rfl
      have r2 : (V0).cell? ⟨w.heap.size + 1, 2, none⟩ = some (.int .i64 0) := hT.b1.cell 2 rfl
      have s0 : (V0).frozen? ⟨w.heap.size + 1, 0, none⟩ = false := hT.b1.free 0
      have s1 : (V0).frozen? ⟨w.heap.size + 1, 1, none⟩ = false := hT.b1.free 1
      have s2 : (V0).frozen? ⟨w.heap.size + 1, 2, none⟩ = false := hT.b1.free 2
      have c0 := st3_blk n1 (.slice vo1 D1.length vc1) sc1 hT.b0
      have cg := st3_other n1 (.slice vo1 D1.length vc1) sc1 hT.bg (show g ≠ w.heap.size by omega)
      have ch := st3_other n1 (.slice vo1 D1.length vc1) sc1 hT.bh (show h ≠ w.heap.size by omega)
      have c1 := st3_other n1 (.slice vo1 D1.length vc1) sc1 hT.b1 (show w.heap.size + 1 ≠ w.heap.size by omega)
      have d1 := st3_blk n2 (.slice vo2 D2.length vc2) sc2 c1
      have d0 := st3_other n2 (.slice vo2 D2.length vc2) sc2 c0 (show w.heap.size ≠ w.heap.size + 1 by omega)
      have dg := st3_other n2 (.slice vo2 D2.length vc2) sc2 cg (show g ≠ w.heap.size + 1 by omega)
      have dh := st3_other n2 (.slice vo2 D2.length vc2) sc2 ch (show h ≠ w.heap.size + 1 by omega)
      have hbe := st3_below (st3_below hT.below (Nat.le_refl _) n1 (.slice vo1 D1.length vc1) sc1) (Nat.le_succ _) n2 (.slice vo2 D2.length vc2) sc2
      have hn1 := st3_ints n2 (.slice vo2 D2.length vc2) sc2 (b := w.heap.size + 1) (st3_ints n1 (.slice vo1 D1.length vc1) sc1 (b := w.heap.size) hj1 (fun k hk => by have := hlx.out k hk; omega)) (fun k hk => by have := hlx.out k hk; omega)
      have hn2 := st3_ints n2 (.slice vo2 D2.length vc2) sc2 (b := w.heap.size + 1) (st3_ints n1 (.slice vo1 D1.length vc1) sc1 (b := w.heap.size) hj2 (fun k hk => by have := hly.out k hk; omega)) (fun k hk => by have := hly.out k hk; omega)
      have hSa : T2S g h (numc n1 (.slice vo1 D1.length vc1) sc1) (numc n2 (.slice vo2 D2.length vc2) sc2) (st3 (V0) w.heap.size n1 (.slice vo1 D1.length vc1) sc1) := ⟨cg, ch⟩
      have hSb : T2S g h (numc n1 (.slice vo1 D1.length vc1) sc1) (numc n2 (.slice vo2 D2.length vc2) sc2) (st3 (st3 (V0) w.heap.size n1 (.slice vo1 D1.length vc1) sc1) (w.heap.size + 1) n2 (.slice vo2 D2.length vc2) sc2) := ⟨dg, dh⟩
      clear c0 cg ch dg dh hj1 hj2 hT
      replace c1 := Lib.hid c1
      replace d0 := Lib.hid d0
      replace d1 := Lib.hid d1
      replace hbe := Lib.hid hbe
      replace hn1 := Lib.hid hn1
      replace hn2 := Lib.hid hn2
      replace hSa := Lib.hid hSa
      replace hSb := Lib.hid hSb
      refine wpAnyH_ready (rs := [14]) (by kernel_rfl) (by simp) ?_
      refine AllReadyH.cons rfl (fun K hK => ?_) AllReadyH.nil
      clear hS
      go_simp
      refine hK.out _ (st3 (V0) w.heap.size n1 (.slice vo1 D1.length vc1) sc1) hSa.out (fun hS => ?_)
      clear hK K
      clear x0 x1 x2 y0 y1 y2 p0 p1 p2 q0 q1 q2 r0 r1 r2 s0 s1 s2 hSa
      generalize st3 (V0) w.heap.size n1 (.slice vo1 D1.length vc1) sc1 = V1 at *
      have r0 : V1.cell? ⟨w.heap.size + 1, 0, none⟩ = some (.bool false) := c1.out.cell 0 rfl
      have r1 : V1.cell? ⟨w.heap.size + 1, 1, none⟩ = some (.slice none 0 0) := c1.out.cell 1 rfl
      have r2 : V1.cell? ⟨w.heap.size + 1, 2, none⟩ = some (.int .i64 0) := c1.out.cell 2 rfl
      have s0 : V1.frozen? ⟨w.heap.size + 1, 0, none⟩ = false := c1.out.free 0
      have s1 : V1.frozen? ⟨w.heap.size + 1, 1, none⟩ = false := c1.out.free 1
      have s2 : V1.frozen? ⟨w.heap.size + 1, 2, none⟩ = false := c1.out.free 2
      try simp only [List.getElem_toArray, List.getElem_cons_succ, List.getElem_cons_zero, Act.put, List.setIfInBounds_toArray, List.set_cons_zero, List.set_cons_succ]
      refine wpAnyH_ready (rs := [15]) (by kernel_rfl) (by simp) ?_
      refine AllReadyH.cons rfl (fun K hK => ?_) AllReadyH.nil
      clear hS
      go_simp
      refine hK.out _ (st3 V1 (w.heap.size + 1) n2 (.slice vo2 D2.length vc2) sc2) hSb.out (fun hS => ?_)
      clear hK K
      try simp only [List.getElem_toArray, List.getElem_cons_succ, List.getElem_cons_zero, Act.put, List.setIfInBounds_toArray, List.set_cons_zero, List.set_cons_succ]
      refine wpAnyH_take (i := 16) (v := .bool false) rfl (by kernel_rfl) (by kernel_rfl) (by kernel_rfl) (fun _ _ _ h => h) (.inl ⟨by kernel_rfl, fun _ _ => by kernel_rfl⟩) hS ?_; simp only [List.getElem_toArray, List.getElem_cons_succ, List.getElem_cons_zero, Act.put, List.setIfInBounds_toArray, List.set_cons_zero, List.set_cons_succ]
      refine wpAnyH_done (by kernel_rfl) ?_ _
      go_wp2_with fail
      exact bodyPost_ret (v := .tuple #[.agg (numc n1 (.slice vo1 D1.length vc1) sc1), .agg (numc n2 (.slice vo2 D2.length vc2) sc2), .bool false]) (res3 rfl _ _ w.heap.size (w.heap.size + 1) 98 98 _ _ (0, 0) (0, 0) _ _ _ rfl rfl d0.out.eq rfl d1.out.eq Tryz.underlying98 rfl infoNum Tryz.underlying98 rfl infoNum) rfl
        ⟨_, _, rfl, hbe.out, ⟨n1, _, D1, sc1, rfl, hn1.out, hm1.out⟩, ⟨n2, _, D2, sc2, rfl, hn2.out, hm2.out⟩⟩
    · clear hsb2
      refine wpAnyH_take (i := 4) (v := .bool true) rfl (by kernel_rfl) (by kernel_rfl) (by kernel_rfl) (fun _ _ _ h => h) (.inl ⟨by kernel_rfl, fun _ _ => by kernel_rfl⟩) hS ?_; simp only [List.getElem_toArray, List.getElem_cons_succ, List.getElem_cons_zero, Act.put, List.setIfInBounds_toArray, List.set_cons_zero, List.set_cons_succ]
      refine wpAnyH_take (i := 5) (v := .bool true) rfl (by kernel_rfl) (by kernel_rfl) (by kernel_rfl) (fun _ _ _ h => h) (.inl ⟨by kernel_rfl, fun _ _ => by kernel_rfl⟩) hS ?_; simp only [List.getElem_toArray, List.getElem_cons_succ, List.getElem_cons_zero, Act.put, List.setIfInBounds_toArray, List.set_cons_zero, List.set_cons_succ]
      refine wpAnyH_take (i := 6) (v := .bool true) rfl (by kernel_rfl) (by kernel_rfl) (by kernel_rfl) (fun _ _ _ h => h) (.inl ⟨by kernel_rfl, fun _ _ => by kernel_rfl⟩) hS ?_; simp only [List.getElem_toArray, List.getElem_cons_succ, List.getElem_cons_zero, Act.put, List.setIfInBounds_toArray, List.set_cons_zero, List.set_cons_succ]
      refine wpAnyH_take (i := 7) (v := .string a) rfl (by kernel_rfl) (by kernel_rfl) (by kernel_rfl) (fun _ _ _ h => h) (.inl ⟨by kernel_rfl, fun _ _ => by kernel_rfl⟩) hS ?_; simp only [List.getElem_toArray, List.getElem_cons_succ, List.getElem_cons_zero, Act.put, List.setIfInBounds_toArray, List.set_cons_zero, List.set_cons_succ]
      refine wpAnyH_ready (rs := [8]) (by kernel_rfl) (by simp) ?_
      refine AllReadyH.cons rfl (fun K hK => ?_) AllReadyH.nil
      clear hS
      go_simp
      refine (hca.out _).mono ?_
      rintro e w5 ⟨rfl, hb5⟩
      go_wp2_with fail
      refine hK.out _ _ ((tw9.out.on hb5).held) (fun hS => ?_)
      clear hK K
      try simp only [List.getElem_toArray, List.getElem_cons_succ, List.getElem_cons_zero, Act.put, List.setIfInBounds_toArray, List.set_cons_zero, List.set_cons_succ]
      have tw5 := Lib.hid (tw9.out.on hb5)
      have hi15 := Lib.hid (hi19.out.below hb5)
      have hi25 := Lib.hid (hi29.out.below hb5)
      clear tw9 hi19 hi29 hb5
      cases ca
      · refine wpAnyH_take (i := 9) (v := .bool false) rfl (by kernel_rfl) (by kernel_rfl) (by kernel_rfl) (fun _ _ _ h => h) (.inl ⟨by kernel_rfl, fun _ _ => by kernel_rfl⟩) hS ?_; simp only [List.getElem_toArray, List.getElem_cons_succ, List.getElem_cons_zero, Act.put, List.setIfInBounds_toArray, List.set_cons_zero, List.set_cons_succ]
        refine wpAnyH_take (i := 10) (v := .bool false) rfl (by kernel_rfl) (by kernel_rfl) (by kernel_rfl) (fun _ _ _ h => h) (.inl ⟨by kernel_rfl, fun _ _ => by kernel_rfl⟩) hS ?_; simp only [List.getElem_toArray, List.getElem_cons_succ, List.getElem_cons_zero, Act.put, List.setIfInBounds_toArray, List.set_cons_zero, List.set_cons_succ]
        refine wpAnyH_take (i := 11) (v := undef) rfl (by kernel_rfl) (by kernel_rfl) (by kernel_rfl) (fun _ _ _ h => h) (.inr ⟨by kernel_rfl, rfl⟩) hS ?_; simp only [List.getElem_toArray, List.getElem_cons_succ, List.getElem_cons_zero, Act.put, List.setIfInBounds_toArray, List.set_cons_zero, List.set_cons_succ]
        refine wpAnyH_take (i := 12) (v := undef) rfl (by kernel_rfl) (by kernel_rfl) (by kernel_rfl) (fun _ _ _ h => h) (.inr ⟨by kernel_rfl, rfl⟩) hS ?_; simp only [List.getElem_toArray, List.getElem_cons_succ, List.getElem_cons_zero, Act.put, List.setIfInBounds_toArray, List.set_cons_zero, List.set_cons_succ]
        refine wpAnyH_take (i := 13) (v := .bool false) rfl (by kernel_rfl) (by kernel_rfl) (by kernel_rfl) (fun _ _ _ h => h) (.inl ⟨by kernel_rfl, fun _ _ => by kernel_rfl⟩) hS ?_; simp only [List.getElem_toArray, List.getElem_cons_succ, List.getElem_cons_zero, Act.put, List.setIfInBounds_toArray, List.set_cons_zero, List.set_cons_succ]
        have hT : T2 w (w5) g h (numc n1 (.slice vo1 D1.length vc1) sc1) (numc n2 (.slice vo2 D2.length vc2) sc2) := tw5.out
        have hj1 : IntsAt (w5) (.slice vo1 D1.length vc1) D1 := hi15.out
        have hj2 : IntsAt (w5) (.slice vo2 D2.length vc2) D2 := hi25.out
        have x0 : (w5).cell? ⟨g, 0, none⟩ = some (.bool n1) := hT.bg.cell 0 rfl
        have x1 : (w5).cell? ⟨g, 1, none⟩ = some (.slice vo1 D1.length vc1) := hT.bg.cell 1 rfl
        have x2 : (w5).cell? ⟨g, 2, none⟩ = some (.int .i64 sc1) := hT.bg.cell 2 rfl
        have y0 : (w5).cell? ⟨h, 0, none⟩ = some (.bool n2) := hT.bh.cell 0 rfl
        have y1 : (w5).cell? ⟨h, 1, none⟩ = some (.slice vo2 D2.length vc2) := hT.bh.cell 1 rfl
        have y2 : (w5).cell? ⟨h, 2, none⟩ = some (.int .i64 sc2) := hT.bh.cell 2 rfl
        have p0 : (w5).cell? ⟨w.heap.size, 0, none⟩ = some (.bool false) := hT.b0.cell 0 rfl
        have p1 : (w5).cell? ⟨w.heap.size, 1, none⟩ = some (.slice none 0 0) := hT.b0.cell 1 rfl
        have p2 : (w5).cell? ⟨w.heap.size, 2, none⟩ = some (.int .i64 0) := hT.b0.cell 2 rfl
        have q0 : (w5).frozen? ⟨w.heap.size, 0, none⟩ = false := hT.b0.free 0
        have q1 : (w5).frozen? ⟨w.heap.size, 1, none⟩ = false := hT.b0.free 1
        have q2 : (w5).frozen? ⟨w.heap.size, 2, none⟩ = false := hT.b0.free 2
        have r0 : (w5).cell? ⟨w.heap.size + 1, 0, none⟩ = some (.bool false) := hT.b1.cell 0 rfl
        have r1 : (w5).cell? ⟨w.heap.size + 1, 1, none⟩ = some (.slice none 0 0) := hT.b1.cell 1 rfl
        have r2 : (w5).cell? ⟨w.heap.size + 1, 2, none⟩ = some (.int .i64 0) := hT.b1.cell 2 rfl
        have s0 : (w5).frozen? ⟨w.heap.size + 1, 0, none⟩ = false := hT.b1.free 0
        have s1 : (w5).frozen? ⟨w.heap.size + 1, 1, none⟩ = false := hT.b1.free 1
        have s2 : (w5).frozen? ⟨w.heap.size + 1, 2, none⟩ = false := hT.b1.free 2
        have c0 := st3_blk n1 (.slice vo1 D1.length vc1) sc1 hT.b0
        have cg := st3_other n1 (.slice vo1 D1.length vc1) sc1 hT.bg (show g ≠ w.heap.size by omega)
        have ch := st3_other n1 (.slice vo1 D1.length vc1) sc1 hT.bh (show h ≠ w.heap.size by omega)
        have c1 := st3_other n1 (.slice vo1 D1.length vc1) sc1 hT.b1 (show w.heap.size + 1 ≠ w.heap.size by omega)
        have d1 := st3_blk n2 (.slice vo2 D2.length vc2) sc2 c1
        have d0 := st3_other n2 (.slice vo2 D2.length vc2) sc2 c0 (show w.heap.size ≠ w.heap.size + 1 by omega)
        have dg := st3_other n2 (.slice vo2 D2.length vc2) sc2 cg (show g ≠ w.heap.size + 1 by omega)
        have dh := st3_other n2 (.slice vo2 D2.length vc2) sc2 ch (show h ≠ w.heap.size + 1 by omega)
        have hbe := st3_below (st3_below hT.below (Nat.le_refl _) n1 (.slice vo1 D1.length vc1) sc1) (Nat.le_succ _) n2 (.slice vo2 D2.length vc2) sc2
        have hn1 := st3_ints n2 (.slice vo2 D2.length vc2) sc2 (b := w.heap.size + 1) (st3_ints n1 (.slice vo1 D1.length vc1) sc1 (b := w.heap.size) hj1 (fun k hk => by have := hlx.out k hk; omega)) (fun k hk => by have := hlx.out k hk; omega)
        have hn2 := st3_ints n2 (.slice vo2 D2.length vc2) sc2 (b := w.heap.size + 1) (st3_ints n1 (.slice vo1 D1.length vc1) sc1 (b := w.heap.size) hj2 (fun k hk => by have := hly.out k hk; omega)) (fun k hk => by have := hly.out k hk; omega)
        have hSa : T2S g h (numc n1 (.slice vo1 D1.length vc1) sc1) (numc n2 (.slice vo2 D2.length vc2) sc2) (st3 (w5) w.heap.size n1 (.slice vo1 D1.length vc1) sc1) := ⟨cg, ch⟩
        have hSb : T2S g h (numc n1 (.slice vo1 D1.length vc1) sc1) (numc n2 (.slice vo2 D2.length vc2) sc2) (st3 (st3 (w5) w.heap.size n1 (.slice vo1 D1.length vc1) sc1) (w.heap.size + 1) n2 (.slice vo2 D2.length vc2) sc2) := ⟨dg, dh⟩
        clear c0 cg ch dg dh hj1 hj2 hT
        replace c1 := Lib.hid c1
        replace d0 := Lib.hid d0
        replace d1 := Lib.hid d1
        replace hbe := Lib.hid hbe
        replace hn1 := Lib.hid hn1
        replace hn2 := Lib.hid hn2
        replace hSa := Lib.hid hSa
        replace hSb := Lib.hid hSb
        refine wpAnyH_ready (rs := [14]) (by kernel_rfl) (by simp) ?_
        refine AllReadyH.cons rfl (fun K hK => ?_) AllReadyH.nil
        clear hS
        go_simp
        refine hK.out _ (st3 (w5) w.heap.size n1 (.slice vo1 D1.length vc1) sc1) hSa.out (fun hS => ?_)
        clear hK K
        clear x0 x1 x2 y0 y1 y2 p0 p1 p2 q0 q1 q2 r0 r1 r2 s0 s1 s2 hSa
        generalize st3 (w5) w.heap.size n1 (.slice vo1 D1.length vc1) sc1 = V1 at *
        have r0 : V1.cell? ⟨w.heap.size + 1, 0, none⟩ = some (.bool false) := c1.out.cell 0 rfl
        have r1 : V1.cell? ⟨w.heap.size + 1, 1, none⟩ = some (.slice none 0 0) := c1.out.cell 1 rfl
        have r2 : V1.cell? ⟨w.heap.size + 1, 2, none⟩ = some (.int .i64 0) := c1.out.cell 2 rfl
        have s0 : V1.frozen? ⟨w.heap.size + 1, 0, none⟩ = false := c1.out.free 0
        have s1 : V1.frozen? ⟨w.heap.size + 1, 1, none⟩ = false := c1.out.free 1
        have s2 : V1.frozen? ⟨w.heap.size + 1, 2, none⟩ = false := c1.out.free 2
        try simp only [List.getElem_toArray, List.getElem_cons_succ, List.getElem_cons_zero, Act.put, List.setIfInBounds_toArray, List.set_cons_zero, List.set_cons_succ]
        refine wpAnyH_ready (rs := [15]) (by kernel_rfl) (by simp) ?_
        refine AllReadyH.cons rfl (fun K hK => ?_) AllReadyH.nil
        clear hS
        go_simp
        refine hK.out _ (st3 V1 (w.heap.size + 1) n2 (.slice vo2 D2.length vc2) sc2) hSb.out (fun hS => ?_)
        clear hK K
        try simp only [List.getElem_toArray, List.getElem_cons_succ, List.getElem_cons_zero, Act.put, List.setIfInBounds_toArray, List.set_cons_zero, List.set_cons_succ]
        refine wpAnyH_take (i := 16) (v := .bool false) rfl (by kernel_rfl) (by kernel_rfl) (by kernel_rfl) (fun _ _ _ h => h) (.inl ⟨by kernel_rfl, fun _ _ => by kernel_rfl⟩) hS ?_; simp only [List.getElem_toArray, List.getElem_cons_succ, List.getElem_cons_zero, Act.put, List.setIfInBounds_toArray, List.set_cons_zero, List.set_cons_succ]
        refine wpAnyH_done (by kernel_rfl) ?_ _
        go_wp2_with fail
        exact bodyPost_ret (v := .tuple #[.agg (numc n1 (.slice vo1 D1.length vc1) sc1), .agg (numc n2 (.slice vo2 D2.length vc2) sc2), .bool false]) (res3 rfl _ _ w.heap.size (w.heap.size + 1) 98 98 _ _ (0, 0) (0, 0) _ _ _ rfl rfl d0.out.eq rfl d1.out.eq Tryz.underlying98 rfl infoNum Tryz.underlying98 rfl infoNum) rfl
          ⟨_, _, rfl, hbe.out, ⟨n1, _, D1, sc1, rfl, hn1.out, hm1.out⟩, ⟨n2, _, D2, sc2, rfl, hn2.out, hm2.out⟩⟩
      · refine wpAnyH_take (i := 9) (v := .bool true) rfl (by kernel_rfl) (by kernel_rfl) (by kernel_rfl) (fun _ _ _ h => h) (.inl ⟨by kernel_rfl, fun _ _ => by kernel_rfl⟩) hS ?_; simp only [List.getElem_toArray, List.getElem_cons_succ, List.getElem_cons_zero, Act.put, List.setIfInBounds_toArray, List.set_cons_zero, List.set_cons_succ]
        refine wpAnyH_take (i := 10) (v := .bool true) rfl (by kernel_rfl) (by kernel_rfl) (by kernel_rfl) (fun _ _ _ h => h) (.inl ⟨by kernel_rfl, fun _ _ => by kernel_rfl⟩) hS ?_; simp only [List.getElem_toArray, List.getElem_cons_succ, List.getElem_cons_zero, Act.put, List.setIfInBounds_toArray, List.set_cons_zero, List.set_cons_succ]
        refine wpAnyH_take (i := 11) (v := .string b) rfl (by kernel_rfl) (by kernel_rfl) (by kernel_rfl) (fun _ _ _ h => h) (.inl ⟨by kernel_rfl, fun _ _ => by kernel_rfl⟩) hS ?_; simp only [List.getElem_toArray, List.getElem_cons_succ, List.getElem_cons_zero, Act.put, List.setIfInBounds_toArray, List.set_cons_zero, List.set_cons_succ]
        refine wpAnyH_ready (rs := [12]) (by kernel_rfl) (by simp) ?_
        refine AllReadyH.cons rfl (fun K hK => ?_) AllReadyH.nil
        clear hS
        go_simp
        refine (hcb.out _).mono ?_
        rintro e w6 ⟨rfl, hb6⟩
        go_wp2_with fail
        refine hK.out _ _ ((tw5.out.on hb6).held) (fun hS => ?_)
        clear hK K
        try simp only [List.getElem_toArray, List.getElem_cons_succ, List.getElem_cons_zero, Act.put, List.setIfInBounds_toArray, List.set_cons_zero, List.set_cons_succ]
        have tw6 := Lib.hid (tw5.out.on hb6)
        have hi16 := Lib.hid (hi15.out.below hb6)
        have hi26 := Lib.hid (hi25.out.below hb6)
        clear tw5 hi15 hi25 hb6
        refine wpAnyH_take (i := 13) (v := .bool cb) rfl (by kernel_rfl) (by kernel_rfl) (by kernel_rfl) (fun _ _ _ h => h) (.inl ⟨by kernel_rfl, fun _ _ => by kernel_rfl⟩) hS ?_; simp only [List.getElem_toArray, List.getElem_cons_succ, List.getElem_cons_zero, Act.put, List.setIfInBounds_toArray, List.set_cons_zero, List.set_cons_succ]
        have hT : T2 w (w6) g h (numc n1 (.slice vo1 D1.length vc1) sc1) (numc n2 (.slice vo2 D2.length vc2) sc2) := tw6.out
        have hj1 : IntsAt (w6) (.slice vo1 D1.length vc1) D1 := hi16.out
        have hj2 : IntsAt (w6) (.slice vo2 D2.length vc2) D2 := hi26.out
        have x0 : (w6).cell? ⟨g, 0, none⟩ = some (.bool n1) := hT.bg.cell 0 rfl
        have x1 : (w6).cell? ⟨g, 1, none⟩ = some (.slice vo1 D1.length vc1) := hT.bg.cell 1 rfl
        have x2 : (w6).cell? ⟨g, 2, none⟩ = some (.int .i64 sc1) := hT.bg.cell 2 rfl
        have y0 : (w6).cell? ⟨h, 0, none⟩ = some (.bool n2) := hT.bh.cell 0 rfl
        have y1 : (w6).cell? ⟨h, 1, none⟩ = some (.slice vo2 D2.length vc2) := hT.bh.cell 1 rfl
        have y2 : (w6).cell? ⟨h, 2, none⟩ = some (.int .i64 sc2) := hT.bh.cell 2 rfl
        have p0 : (w6).cell? ⟨w.heap.size, 0, none⟩ = some (.bool false) := hT.b0.cell 0 rfl
        have p1 : (w6).cell? ⟨w.heap.size, 1, none⟩ = some (.slice none 0 0) := hT.b0.cell 1 rfl
        have p2 : (w6).cell? ⟨w.heap.size, 2, none⟩ = some (.int .i64 0) := hT.b0.cell 2 rfl
        have q0 : (w6).frozen? ⟨w.heap.size, 0, none⟩ = false := hT.b0.free 0
        have q1 : (w6).frozen? ⟨w.heap.size, 1, none⟩ = false := hT.b0.free 1
        have q2 : (w6).frozen? ⟨w.heap.size, 2, none⟩ = false := hT.b0.free 2
        have r0 : (w6).cell? ⟨w.heap.size + 1, 0, none⟩ = some (.bool false) := hT.b1.cell 0 rfl
        have r1 : (w6).cell? ⟨w.heap.size + 1, 1, none⟩ = some (.slice none 0 0) := hT.b1.cell 1 rfl
        have r2 : (w6).cell? ⟨w.heap.size + 1, 2, none⟩ = some (.int .i64 0) := hT.b1.cell 2 rfl
        have s0 : (w6).frozen? ⟨w.heap.size + 1, 0, none⟩ = false := hT.b1.free 0
        have s1 : (w6).frozen? ⟨w.heap.size + 1, 1, none⟩ = false := hT.b1.free 1
        have s2 : (w6).frozen? ⟨w.heap.size + 1, 2, none⟩ = false := hT.b1.free 2
        have c0 := st3_blk n1 (.slice vo1 D1.length vc1) sc1 hT.b0
        have cg := st3_other n1 (.slice vo1 D1.length vc1) sc1 hT.bg (show g ≠ w.heap.size by omega)
        have ch := st3_other n1 (.slice vo1 D1.length vc1) sc1 hT.bh (show h ≠ w.heap.size by omega)
        have c1 := st3_other n1 (.slice vo1 D1.length vc1) sc1 hT.b1 (show w.heap.size + 1 ≠ w.heap.size by omega)
        have d1 := st3_blk n2 (.slice vo2 D2.length vc2) sc2 c1
        have d0 := st3_other n2 (.slice vo2 D2.length vc2) sc2 c0 (show w.heap.size ≠ w.heap.size + 1 by omega)
        have dg := st3_other n2 (.slice vo2 D2.length vc2) sc2 cg (show g ≠ w.heap.size + 1 by omega)
        have dh := st3_other n2 (.slice vo2 D2.length vc2) sc2 ch (show h ≠ w.heap.size + 1 by omega)
        have hbe := st3_below (st3_below hT.below (Nat.le_refl _) n1 (.slice vo1 D1.length vc1) sc1) (Nat.le_succ _) n2 (.slice vo2 D2.length vc2) sc2
        have hn1 := st3_ints n2 (.slice vo2 D2.length vc2) sc2 (b := w.heap.size + 1) (st3_ints n1 (.slice vo1 D1.length vc1) sc1 (b := w.heap.size) hj1 (fun k hk => by have := hlx.out k hk; omega)) (fun k hk => by have := hlx.out k hk; omega)
        have hn2 := st3_ints n2 (.slice vo2 D2.length vc2) sc2 (b := w.heap.size + 1) (st3_ints n1 (.slice vo1 D1.length vc1) sc1 (b := w.heap.size) hj2 (fun k hk => by have := hly.out k hk; omega)) (fun k hk => by have := hly.out k hk; omega)
        have hSa : T2S g h (numc n1 (.slice vo1 D1.length vc1) sc1) (numc n2 (.slice vo2 D2.length vc2) sc2) (st3 (w6) w.heap.size n1 (.slice vo1 D1.length vc1) sc1) := ⟨cg, ch⟩
        have hSb : T2S g h (numc n1 (.slice vo1 D1.length vc1) sc1) (numc n2 (.slice vo2 D2.length vc2) sc2) (st3 (st3 (w6) w.heap.size n1 (.slice vo1 D1.length vc1) sc1) (w.heap.size + 1) n2 (.slice vo2 D2.length vc2) sc2) := ⟨dg, dh⟩
        clear c0 cg ch dg dh hj1 hj2 hT
        replace c1 := Lib.hid c1
        replace d0 := Lib.hid d0
        replace d1 := Lib.hid d1
        replace hbe := Lib.hid hbe
        replace hn1 := Lib.hid hn1
        replace hn2 := Lib.hid hn2
        replace hSa := Lib.hid hSa
        replace hSb := Lib.hid hSb
        refine wpAnyH_ready (rs := [14]) (by kernel_rfl) (by simp) ?_
        refine AllReadyH.cons rfl (fun K hK => ?_) AllReadyH.nil
        clear hS
        go_simp
        refine hK.out _ (st3 (w6) w.heap.size n1 (.slice vo1 D1.length vc1) sc1) hSa.out (fun hS => ?_)
        clear hK K
        clear x0 x1 x2 y0 y1 y2 p0 p1 p2 q0 q1 q2 r0 r1 r2 s0 s1 s2 hSa
        generalize st3 (w6) w.heap.size n1 (.slice vo1 D1.length vc1) sc1 = V1 at *
        have r0 : V1.cell? ⟨w.heap.size + 1, 0, none⟩ = some (.bool false) := c1.out.cell 0 rfl
        have r1 : V1.cell? ⟨w.heap.size + 1, 1, none⟩ = some (.slice none 0 0) := c1.out.cell 1 rfl
        have r2 : V1.cell? ⟨w.heap.size + 1, 2, none⟩ = some (.int .i64 0) := c1.out.cell 2 rfl
        have s0 : V1.frozen? ⟨w.heap.size + 1, 0, none⟩ = false := c1.out.free 0
        have s1 : V1.frozen? ⟨w.heap.size + 1, 1, none⟩ = false := c1.out.free 1
        have s2 : V1.frozen? ⟨w.heap.size + 1, 2, none⟩ = false := c1.out.free 2
        try simp only [List.getElem_toArray, List.getElem_cons_succ, List.getElem_cons_zero, Act.put, List.setIfInBounds_toArray, List.set_cons_zero, List.set_cons_succ]
        refine wpAnyH_ready (rs := [15]) (by kernel_rfl) (by simp) ?_
        refine AllReadyH.cons rfl (fun K hK => ?_) AllReadyH.nil
        clear hS
        go_simp
        refine hK.out _ (st3 V1 (w.heap.size + 1) n2 (.slice vo2 D2.length vc2) sc2) hSb.out (fun hS => ?_)
        clear hK K
        try simp only [List.getElem_toArray, List.getElem_cons_succ, List.getElem_cons_zero, Act.put, List.setIfInBounds_toArray, List.set_cons_zero, List.set_cons_succ]
        refine wpAnyH_take (i := 16) (v := .bool cb) rfl (by kernel_rfl) (by kernel_rfl) (by kernel_rfl) (fun _ _ _ h => h) (.inl ⟨by kernel_rfl, fun _ _ => by kernel_rfl⟩) hS ?_; simp only [List.getElem_toArray, List.getElem_cons_succ, List.getElem_cons_zero, Act.put, List.setIfInBounds_toArray, List.set_cons_zero, List.set_cons_succ]
        refine wpAnyH_done (by kernel_rfl) ?_ _
        go_wp2_with fail
        exact bodyPost_ret (v := .tuple #[.agg (numc n1 (.slice vo1 D1.length vc1) sc1), .agg (numc n2 (.slice vo2 D2.length vc2) sc2), .bool cb]) (res3 rfl _ _ w.heap.size (w.heap.size + 1) 98 98 _ _ (0, 0) (0, 0) _ _ _ rfl rfl d0.out.eq rfl d1.out.eq Tryz.underlying98 rfl infoNum Tryz.underlying98 rfl infoNum) rfl
          ⟨_, _, rfl, hbe.out, ⟨n1, _, D1, sc1, rfl, hn1.out, hm1.out⟩, ⟨n2, _, D2, sc2, rfl, hn2.out, hm2.out⟩⟩
end Go.Proofs.YthecgifgjagmaaaGreatDoor.dec
