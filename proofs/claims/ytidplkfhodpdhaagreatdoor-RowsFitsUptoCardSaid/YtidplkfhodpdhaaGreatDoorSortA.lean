/- Texts EncInj, SortP, one behind the other. -/
import Derived.Test.YtidplkfhodpdhaaGreatDoorVPlain
import Derived.Test.YtidplkfhodpdhaaGreatDoorValBA
import Derived.Test.YtidplkfhodpdhaaGreatDoorTabPA
namespace Go.Proofs.YtidplkfhodpdhaaGreatDoor.val
open Go.RowKit dec
set_option linter.unusedVariables false
set_option linter.unusedSimpArgs false
mutual
def in64V : V → Prop
 | .mk _ _ n _ _ l => In64 n ∧ in64L l
def in64L : List V → Prop
 | [] => True
 | v :: r => in64V v ∧ in64L r
end
theorem in64L_mem : ∀ {l : List V}, in64L l → ∀ v ∈ l, in64V v
 | u :: r, h, v, hv => by
  rw [in64L] at h
  rcases List.mem_cons.1 hv with rfl | hv
  ·exact h.1
  ·exact in64L_mem h.2 v hv
theorem in64L_of : ∀ {l : List V}, (∀ v ∈ l, in64V v) → in64L l
 | [], _ => by rw [in64L]; trivial
 | u :: r, h => by
  rw [in64L]
  exact ⟨h u (by simp), in64L_of fun v hv => h v (by simp [hv])⟩
mutual
theorem LA.in64 {w : World} {N : Nat} : ∀ {s : Value} {l : List V}, LA w N s l → in64L l
 | _, _, .mk ao cap l hl h => in64L_of fun v hv => by
  obtain ⟨j, hj, rfl⟩ := List.getElem_of_mem hv
  exact EA.in64 (h j hj)
theorem EA.in64 {w : World} {N : Nat} : ∀ {ao : Option Addr} {o : Nat} {v : V}, EA w N ao o v → in64V v
 | _, _, _, .mk b off o k bo n t x l s hr hk hn ht hx hs => by rw [in64V]; exact ⟨hn, LA.in64 hs⟩
end
theorem lo8_inj {n m : Nat} (h : lo8 n = lo8 m) : n % 256 = m % 256 := by
 have := congrArg UInt8.toNat h
 simpa [lo8] using this
theorem bigL_inj : ∀ (k : Nat) (n m : Nat) (p q : List UInt8), bigL n k ++ p = bigL m k ++ q → n % 2 ^ (8 * k) = m % 2 ^ (8 * k) ∧ p = q
 | 0, n, m, p, q, h => ⟨by simp [Nat.mod_one], by simpa [bigL] using h⟩
 | k + 1, n, m, p, q, h => by
  rw [bigL, bigL, List.cons_append, List.cons_append, List.cons.injEq] at h
  obtain ⟨h1, h2⟩ := bigL_inj k n m p q h.2
  refine ⟨?_, h2⟩
  have h3 := lo8_inj h.1
  have e : 2 ^ (8 * (k + 1)) = 2 ^ (8 * k) * 256 := by rw [Nat.mul_add, Nat.pow_add]
  rw [e, Nat.mod_mul, Nat.mod_mul, h1, h3]
theorem bigL_eq {k n m : Nat} {p q : List UInt8} (h : bigL n k ++ p = bigL m k ++ q) (hn : n < 2 ^ (8 * k)) (hm : m < 2 ^ (8 * k)) : n = m ∧ p = q := by
 obtain ⟨h1, h2⟩ := bigL_inj k n m p q h
 rw [Nat.mod_eq_of_lt hn, Nat.mod_eq_of_lt hm] at h1
 exact ⟨h1, h2⟩
theorem app_eq {a b p q : List UInt8} (hl : a.length = b.length) (h : a ++ p = b ++ q) : a = b ∧ p = q := List.append_inj h hl
theorem txL_inj {t u : ByteArray} {p q : List UInt8} (ht : t.size ≤ 1048576) (hu : u.size ≤ 1048576) (h : txL t ++ p = txL u ++ q) : t = u ∧ p = q := by
 unfold txL at h
 rw [List.append_assoc, List.append_assoc] at h
 obtain ⟨h1, h2⟩ := bigL_eq h (by omega) (by omega)
 have hs : t.data.toList.length = u.data.toList.length := by simpa using h1
 obtain ⟨h3, h4⟩ := app_eq hs h2
 exact ⟨ba_ext h3, h4⟩
theorem u64_inj {n m : Int} (hn : In64 n) (hm : In64 m) (h : u64 n = u64 m) : n = m := by
 unfold u64 at h
 unfold In64 at hn hm
 omega
theorem u64_lt (n : Int) : u64 n < 2 ^ (8 * 8) := by
 unfold u64
 omega
theorem chkW_more {f : List V → Bool} {k : Int} {b : Bool} {n : Int} {t x : ByteArray} {l : List V} (h : chkW f (.mk k b n t x l) = true) : t.size ≤ 1048576 ∧ x.size ≤ 1048576 ∧ l.length ≤ 4096 := by
 rcases kinds k with rfl | rfl | rfl | rfl | rfl | rfl | rfl | rfl | rfl | rfl | rfl | ⟨h0, h1, h2, h3, h4, h5, h6, h7, h8, h9, h10⟩
 iterate 11
  ·simp [chkW, emp, iriB, nameB, chk] at h
   refine ⟨?_, ?_, ?_⟩ <;> (try rw [← ByteArray.size_data]) <;> (try simp only [← Array.length_toList]) <;> simp_all <;> omega
 ·rw [chkW_other f k h0 h1 h2 h3 h4 h5 h6 h7 h8 h9 h10] at h
  cases h
theorem encK (k : Int) (b : Bool) (n : Int) (t x : ByteArray) (l : List V) (p : List UInt8) : encV (.mk k b n t x l) ++ p = lo8 (u64 k) ::
 ((if k = 1 then [if b then 1 else 0] else if k = 2 ∨ k = 6 ∨ k = 7 then bigL (u64 n) 8 else if k = 3 ∨ k = 4 ∨ k = 8 ∨ k = 9 then txL t
  else if k = 10 then txL t ++ txL x else if k = 5 then bigL l.length 4 ++ encL l else []) ++ p) := by
 rw [encV, List.cons_append]
theorem lo8_kind {k k2 : Int} (h : lo8 (u64 k) = lo8 (u64 k2)) (h0 : 0 ≤ k ∧ k ≤ 10) (h1 : 0 ≤ k2 ∧ k2 ≤ 10) : k = k2 := by
 have := lo8_inj h
 unfold u64 at this
 omega
theorem encL_injP (P : V → Prop) : ∀ (l m : List V) (p q : List UInt8), l.length = m.length → (∀ v ∈ l, ∀ u ∈ m, ∀ p q : List UInt8, encV v ++ p = encV u ++ q → v = u ∧ p = q) → encL l ++ p = encL m ++ q → l = m ∧ p = q
 | [], [], p, q, _, _, h => ⟨rfl, by simpa [encL] using h⟩
 | [], _ :: _, _, _, hl, _, _ => by simp at hl
 | _ :: _, [], _, _, hl, _, _ => by simp at hl
 | v :: l, u :: m, p, q, hl, hv, h => by
  rw [encL, encL, List.append_assoc, List.append_assoc] at h
  obtain ⟨h1, h2⟩ := hv v (by simp) u (by simp) _ _ h
  obtain ⟨h3, h4⟩ := encL_injP P l m p q (by simpa using hl) (fun v hv' u hu => hv v (by simp [hv']) u (by simp [hu])) h2
  exact ⟨by rw [h1, h3], h4⟩
theorem encV_inj : ∀ d v u (p q : List UInt8), chkV d v = true → chkV d u = true → in64V v → in64V u → encV v ++ p = encV u ++ q → v = u ∧ p = q := by
 intro d
 induction d using Nat.strongRecOn with
 | ind d ih =>
  intro v u p q hv hu iv iu h
  obtain ⟨f, hf, hfl⟩ := chkV_W d
  rw [hf] at hv hu
  obtain ⟨k, b, n, t, x, l⟩ := v
  obtain ⟨k2, b2, n2, t2, x2, l2⟩ := u
  rw [encK, encK, List.cons.injEq] at h
  obtain ⟨hk, h⟩ := h
  obtain ⟨a1, a2, a3, a4, a5, a6, a7, a8⟩ := chkW_facts hv
  obtain ⟨c1, c2, c3, c4, c5, c6, c7, c8⟩ := chkW_facts hu
  obtain ⟨s1, s2, s3⟩ := chkW_more hv
  obtain ⟨r1, r2, r3⟩ := chkW_more hu
  rw [in64V] at iv iu
  obtain rfl := lo8_kind hk a8 c8
  by_cases h1 : k = 1
  ·subst h1
   rw [if_pos rfl, if_pos rfl] at h
   rw [List.singleton_append, List.singleton_append, List.cons.injEq] at h
   have hb : b = b2 := by
    have := h.1
    cases b <;> cases b2 <;> simp at this <;> rfl
   rw [hb, a2 (by decide) (by decide) (by decide), c2 (by decide) (by decide) (by decide), size0 (a3 (by decide)), size0 (c3 (by decide)), size0 (a4 (by decide)), size0 (c4 (by decide)), a5 (by decide), c5 (by decide)]
   exact ⟨rfl, h.2⟩
  rw [if_neg h1, if_neg h1] at h
  rw [a1 h1, c1 h1]
  by_cases h2 : k = 2 ∨ k = 6 ∨ k = 7
  ·rw [if_pos h2, if_pos h2] at h
   obtain ⟨e1, e2⟩ := bigL_eq h (u64_lt n) (u64_lt n2)
   rw [u64_inj iv.1 iu.1 e1, size0 (a3 (by omega)), size0 (c3 (by omega)), size0 (a4 (by omega)), size0 (c4 (by omega)), a5 (by omega), c5 (by omega)]
   exact ⟨rfl, e2⟩
  rw [if_neg h2, if_neg h2] at h
  rw [a2 (by omega) (by omega) (by omega), c2 (by omega) (by omega) (by omega)]
  by_cases h3 : k = 3 ∨ k = 4 ∨ k = 8 ∨ k = 9
  ·rw [if_pos h3, if_pos h3] at h
   obtain ⟨e1, e2⟩ := txL_inj s1 r1 h
   rw [e1, size0 (a4 (by omega)), size0 (c4 (by omega)), a5 (by omega), c5 (by omega)]
   exact ⟨rfl, e2⟩
  rw [if_neg h3, if_neg h3] at h
  by_cases h10 : k = 10
  ·rw [if_pos h10, if_pos h10, List.append_assoc, List.append_assoc] at h
   obtain ⟨e1, e2⟩ := txL_inj s1 r1 h
   obtain ⟨e3, e4⟩ := txL_inj s2 r2 e2
   rw [e1, e3, a5 (by omega), c5 (by omega)]
   exact ⟨rfl, e4⟩
  rw [if_neg h10, if_neg h10] at h
  rw [size0 (a4 h10), size0 (c4 h10)]
  by_cases h5 : k = 5
  ·rw [if_pos h5, if_pos h5, List.append_assoc, List.append_assoc] at h
   obtain ⟨e1, e2⟩ := bigL_eq h (by omega) (by omega)
   obtain ⟨d', hd, hl⟩ := hfl l (a7 h5)
   obtain ⟨d2, hd2, hl2⟩ := hfl l2 (c7 h5)
   obtain rfl : d' = d2 := by omega
   obtain ⟨e3, e4⟩ := encL_injP (fun _ => True) l l2 p q e1 (fun v hv u hu p q => ih d' (by omega) v u p q (List.all_eq_true.1 hl v hv) (List.all_eq_true.1 hl2 u hu) (in64L_mem iv.2 v hv) (in64L_mem iu.2 u hu)) e2
   rw [e3, size0 (a3 (by omega)), size0 (c3 (by omega))]
   exact ⟨rfl, e4⟩
  rw [if_neg h5, if_neg h5] at h
  rw [size0 (a3 (by omega)), size0 (c3 (by omega)), a5 h5, c5 h5]
  exact ⟨rfl, h⟩
theorem encRow_inj {l m : List V} (hl : l.all mayV = true) (hm : m.all mayV = true) (il : in64L l) (im : in64L m) (hlen : l.length = m.length) (h : encL l = encL m) : l = m := by
 refine (encL_injP (fun _ => True) l m [] [] hlen (fun v hv u hu p q => encV_inj 60 v u p q (List.all_eq_true.1 hl v hv) (List.all_eq_true.1 hm u hu) (in64L_mem il v hv) (in64L_mem im u hu)) (by rw [List.append_nil, List.append_nil]; exact h)).1
end Go.Proofs.YtidplkfhodpdhaaGreatDoor.val
namespace Go.Proofs.YtidplkfhodpdhaaGreatDoor.tab
open Go.RowKit dec val
set_option linter.unusedVariables false
set_option linter.unusedSimpArgs false
theorem getD_at {α : Type} {d : α} (l : List α) {j : Nat} (h : j < l.length) : l.getD j d = l[j] := by
 rw [List.getD_eq_getElem?_getD, List.getElem?_eq_getElem h]; rfl
def insPos (s : Bool) (l : List (List V)) (r : List V) : Nat → Nat
 | 0 => 0
 | k + 1 => if 0 < ordL s (l.getD k []) r then insPos s l r k else k + 1
def insR (s : Bool) (l : List (List V)) (r : List V) : List (List V) := l.take (insPos s l r l.length) ++ r :: l.drop (insPos s l r l.length)
def sortR (s : Bool) (l : List (List V)) : List (List V) := l.foldl (insR s) []
theorem insPos_le (s : Bool) (l : List (List V)) (r : List V) : ∀ k, insPos s l r k ≤ k
 | 0 => Nat.le_refl _
 | k + 1 => by
  unfold insPos
  split
  ·have := insPos_le s l r k; omega
  ·omega
theorem insPos_ahead (s : Bool) (l : List (List V)) (r : List V) : ∀ k, 0 < insPos s l r k → ¬ 0 < ordL s (l.getD (insPos s l r k - 1) []) r
 | 0, h => by simp [insPos] at h
 | k + 1, h => by
  unfold insPos at h ⊢
  split
  ·rename_i hc
   rw [if_pos hc] at h
   exact insPos_ahead s l r k h
  ·rename_i hc
   exact hc
theorem insPos_behind (s : Bool) (l : List (List V)) (r : List V) : ∀ k j, insPos s l r k ≤ j → j < k → 0 < ordL s (l.getD j []) r
 | 0, j, _, h => by omega
 | k + 1, j, h, hj => by
  unfold insPos at h
  split at h
  ·rename_i hc
   by_cases e : j = k
   ·rw [e]; exact hc
   ·exact insPos_behind s l r k j h (by omega)
  ·omega
theorem insR_perm (s : Bool) (l : List (List V)) (r : List V) : (insR s l r).Perm (l ++ [r]) := by
 unfold insR
 refine List.perm_middle.trans ?_
 rw [List.take_append_drop]
 exact List.perm_append_comm (l₁ := [r]) (l₂ := l)
theorem insR_sorted (s : Bool) (l : List (List V)) (r : List V) (h : l.Pairwise (fun a b => ordL s a b ≤ 0)) : (insR s l r).Pairwise (fun a b => ordL s a b ≤ 0) := by
 unfold insR
 have hle := insPos_le s l r l.length
 have hA := insPos_ahead s l r l.length
 have hB := insPos_behind s l r l.length
 generalize insPos s l r l.length = k at *
 have htr : ∀ a b c : List V, ordL s a b ≤ 0 → ordL s b c ≤ 0 → ordL s a c ≤ 0 := fun a b c h1 h2 => by
  have ht := ordL_tri s a b c
  have hi := ordL_in s a c
  unfold Tri at ht
  unfold In1 at hi
  omega
 rw [List.pairwise_iff_getElem] at h
 rw [List.pairwise_append, List.pairwise_cons]
 have hi : ∀ a b : List V, In1 (ordL s a b) := ordL_in s
 refine ⟨?_, ⟨?_, ?_⟩, ?_⟩
 ·rw [List.pairwise_iff_getElem]
  intro i j hi hj hij
  rw [List.getElem_take, List.getElem_take]
  exact h i j _ _ hij
 ·intro b hb
  obtain ⟨j, hj, rfl⟩ := List.getElem_of_mem hb
  rw [List.getElem_drop]
  rw [List.length_drop] at hj
  have := hB (k + j) (by omega) (by omega)
  rw [getD_at _ (by omega)] at this
  have := ordL_neg s (l[k + j]'(by omega)) r
  omega
 ·rw [List.pairwise_iff_getElem]
  intro i j hi hj hij
  rw [List.getElem_drop, List.getElem_drop]
  exact h _ _ _ _ (by omega)
 ·intro a ha b hb
  obtain ⟨i, hi, rfl⟩ := List.getElem_of_mem ha
  rw [List.length_take] at hi
  rw [List.getElem_take]
  have h1 : ordL s (l[i]'(by omega)) r ≤ 0 := by
   have h0 : 0 < k := by omega
   have := hA h0
   rw [getD_at _ (by omega)] at this
   by_cases e : i = k - 1
   ·have e2 : l[i]'(by omega) = l[k - 1]'(by omega) := by congr
    rw [e2]; omega
   ·exact htr _ (l[k - 1]'(by omega)) _ (h i (k - 1) (by omega) (by omega) (by omega)) (by omega)
  rcases List.mem_cons.1 hb with rfl | hb
  ·exact h1
  ·obtain ⟨j, hj, rfl⟩ := List.getElem_of_mem hb
   rw [List.length_drop] at hj
   rw [List.getElem_drop]
   exact h i (k + j) (by omega) (by omega) (by omega)
theorem sortR_fold (s : Bool) : ∀ (l out : List (List V)), out.Pairwise (fun a b => ordL s a b ≤ 0) → (l.foldl (insR s) out).Pairwise (fun a b => ordL s a b ≤ 0) ∧ (l.foldl (insR s) out).Perm (out ++ l)
 | [], out, h => ⟨h, by simp⟩
 | r :: l, out, h => by
  obtain ⟨h1, h2⟩ := sortR_fold s l (insR s out r) (insR_sorted s out r h)
  rw [List.foldl_cons]
  refine ⟨h1, h2.trans ?_⟩
  have := (insR_perm s out r).append_right l
  simpa using this
theorem sortR_sorted (s : Bool) (l : List (List V)) : (sortR s l).Pairwise (fun a b => ordL s a b ≤ 0) := (sortR_fold s l [] List.Pairwise.nil).1
theorem sortR_perm (s : Bool) (l : List (List V)) : (sortR s l).Perm l := by
 have := (sortR_fold s l [] List.Pairwise.nil).2
 simpa [sortR] using this
theorem sortR_len (s : Bool) (l : List (List V)) : (sortR s l).length = l.length := (sortR_perm s l).length_eq
theorem ordL_may (s : Bool) {a b : List V} (ha : a.all mayV = true) (hb : b.all mayV = true) (h : ordL s a b = 0) : a = b :=
 ordL_zero s (fun _ => True) a b (fun v hv u hu h => (ord_same s v u (List.all_eq_true.1 ha v hv) (List.all_eq_true.1 hb u hu)).1 h) h
theorem sort_eq (s : Bool) {l m : List (List V)} (hl : ∀ r ∈ l, r.all mayV = true) (hm : ∀ r ∈ m, r.all mayV = true) : sortR s l = sortR s m ↔ l.Perm m := by
 constructor
 ·intro h
  exact ((sortR_perm s l).symm.trans (by rw [h])).trans (sortR_perm s m)
 ·intro h
  refine List.Perm.eq_of_pairwise (le := fun a b => ordL s a b ≤ 0) (fun a b ha hb h1 h2 => ?_) (sortR_sorted s l) (sortR_sorted s m) ((sortR_perm s l).trans (h.trans (sortR_perm s m).symm))
  have ha' := hl a ((sortR_perm s l).mem_iff.1 ha)
  have hb' := hm b ((sortR_perm s m).mem_iff.1 hb)
  have := ordL_neg s a b
  exact ordL_may s ha' hb' (by omega)
def eqRowsB : List (List V) → List (List V) → Bool
 | [], [] => true
 | r :: l, s :: m => sameL r s && eqRowsB l m
 | _, _ => false
theorem eqRowsB_iff : ∀ l m : List (List V), eqRowsB l m = true ↔ l = m
 | [], [] => by simp [eqRowsB]
 | [], _ :: _ => by simp [eqRowsB]
 | _ :: _, [] => by simp [eqRowsB]
 | r :: l, s :: m => by rw [eqRowsB, Bool.and_eq_true, sameL_iff, eqRowsB_iff l m, List.cons.injEq]
def in64T (t : Tab) : Prop := ∀ r ∈ t.rows, in64L r
theorem cnt_perm : ∀ {l m : List (List UInt8)}, l.length = m.length → (∀ k, cntK k m ≤ cntK k l) → m.Perm l
 | l, [], hlen, _ => by rw [List.eq_nil_of_length_eq_zero hlen]
 | l, x :: m, hlen, h => by
  have hm : x ∈ l := by
   have := h x
   unfold cntK at this
   rw [List.countP_cons_of_pos (by simp)] at this
   have h2 : 0 < l.countP (fun y => decide (y = x)) := by omega
   obtain ⟨y, hy, e⟩ := List.countP_pos_iff.1 h2
   rw [decide_eq_true_iff] at e
   rw [← e]
   exact hy
  obtain ⟨l1, l2, rfl⟩ := List.append_of_mem hm
  have hp : (l1 ++ x :: l2).Perm (x :: (l1 ++ l2)) := List.perm_middle
  refine ((cnt_perm (l := l1 ++ l2) (by simp at hlen ⊢; omega) (fun k => ?_)).cons x).trans hp.symm
  have := h k
  unfold cntK at this ⊢
  rw [hp.countP_eq, List.countP_cons, List.countP_cons] at this
  omega
theorem drain_perm {n : Nat} {l m : List (List V)} (hlen : l.length = m.length) (h : ∀ k, cntK k (m.map encL) ≤ cntK k (l.map encL)) : (m.map encL).Perm (l.map encL) := cnt_perm (by simpa using hlen) h
theorem map_inj_perm {n : Nat} : ∀ {l m : List (List V)}, (∀ r ∈ l, rowB n r = true ∧ in64L r) → (∀ r ∈ m, rowB n r = true ∧ in64L r) → (m.map encL).Perm (l.map encL) → m.Perm l
 | l, [], _, _, h => by
  have : l = [] := List.eq_nil_of_length_eq_zero (by simpa using h.length_eq.symm)
  rw [this]
 | l, r :: m, hl, hm, h => by
  have hmem : encL r ∈ l.map encL := h.mem_iff.1 (by simp)
  obtain ⟨r', hr', e⟩ := List.mem_map.1 hmem
  have h1 := hl r' hr'
  have h2 := hm r (by simp)
  unfold rowB at h1 h2
  simp only [Bool.and_eq_true, decide_eq_true_iff] at h1 h2
  have : r' = r := encRow_inj h1.1.2 h2.1.2 h1.2 h2.2 (by rw [h1.1.1, h2.1.1]) e
  subst this
  obtain ⟨l1, l2, rfl⟩ := List.append_of_mem hr'
  have hp : (l1 ++ r' :: l2).Perm (r' :: (l1 ++ l2)) := List.perm_middle
  have h3 := h.trans (hp.map encL)
  rw [List.map_cons, List.map_cons, List.perm_cons] at h3
  refine ((map_inj_perm (n := n) (fun r hr => hl r (by simp at hr ⊢; rcases hr with hr | hr <;> simp [hr])) (fun r hr => hm r (by simp [hr])) h3).cons r').trans hp.symm
theorem mayT_rows {t : Tab} (h : mayT t = true) (hi : in64T t) : ∀ r ∈ t.rows, rowB t.vars.length r = true ∧ in64L r := fun r hr => by
 unfold mayT at h
 rw [Bool.and_eq_true, List.all_eq_true] at h
 exact ⟨h.2 r hr, hi r hr⟩
theorem mayT_cells {t : Tab} (h : mayT t = true) : ∀ r ∈ t.rows, r.all mayV = true := fun r hr => by
 unfold mayT at h
 rw [Bool.and_eq_true, List.all_eq_true] at h
 have := h.2 r hr
 unfold rowB at this
 rw [Bool.and_eq_true] at this
 exact this.2
theorem same_sorted (s : Bool) {a b : Tab} (ia : in64T a) (ib : in64T b) : sameT a b = (mayT a && mayT b && decide (a.vars = b.vars) && decide (a.rows.length = b.rows.length) && eqRowsB (sortR s a.rows) (sortR s b.rows)) := by
 unfold sameT
 cases ha : mayT a
 ·rfl
 cases hb : mayT b
 ·rfl
 by_cases hv : a.vars = b.vars
 case neg => simp [hv]
 by_cases hn : a.rows.length = b.rows.length
 case neg => simp [hn]
 rw [decide_eq_true hv, decide_eq_true hn]
 simp only [Bool.true_and]
 have hra := mayT_rows ha ia
 have hrb := mayT_rows hb ib
 rw [← hv] at hrb
 rw [Bool.eq_iff_iff, drain_iff, eqRowsB_iff, sort_eq s (mayT_cells ha) (mayT_cells hb)]
 constructor
 ·intro h
  exact (map_inj_perm (n := a.vars.length) hra hrb (drain_perm (n := a.vars.length) hn h)).symm
 ·intro h k
  unfold cntK
  exact Nat.le_of_eq ((h.map encL).countP_eq _).symm
end Go.Proofs.YtidplkfhodpdhaaGreatDoor.tab
