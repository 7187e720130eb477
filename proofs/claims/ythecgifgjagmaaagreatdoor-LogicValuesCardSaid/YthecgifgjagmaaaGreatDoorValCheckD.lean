/- Contract of checked: lists. -/
import Derived.Test.YthecgifgjagmaaaGreatDoorValCheck
namespace Go.Proofs.YthecgifgjagmaaaGreatDoor.val
open Go.ChangeShapes Go.WideShapes Go.ChangeAt Go.RowKit kit dec
set_option linter.unusedVariables false
set_option linter.unusedSimpArgs false
/-- What is known of checked, so many lists deep. -/
def Chk (N d : Nat) : Prop := ∀ (w : World) (hE : Env w) (k : Int) (b : Bool) (n : Int) (t x : ByteArray) (s : Value) (l : List V), LA w N s l → t.size ≤ N → x.size ≤ N →
  Calls Tryz.prog 54 #[agg6 k b n t x s, .int .i64 ((60 - d : Nat) : Int)] w fun e w' => e = .returned (.bool (chkV d (.mk k b n t x l))) ∧ Below w.heap.size w w'
set_option maxRecDepth 100000 in
theorem each_any (N d : Nat) (hd : d < 60) (hc : Chk N d) (w : World) (hE : Env w) (B : Nat) (hB : w.cell? ⟨B, 0, none⟩ = some (.int .i64 ((60 - (d + 1) : Nat) : Int))) (k : Int) (b : Bool) (n : Int) (t x : ByteArray) (s : Value) (l : List V) (ha : LA w N s l) (ht : t.size ≤ N) (hx : x.size ≤ N) :
    Calls Tryz.prog 100 #[agg6 k b n t x s, .pointer (some ⟨B, 0, none⟩)] w fun e w' => e = .returned (.bool (!chkV d (.mk k b n t x l))) ∧ Below w.heap.size w w' := by
  have hal : Below w.heap.size w (w.alloc (.cells #[.int .i64 k, .bool b, .int .i64 n, .string t, .string x, s] 26)) := (Below.refl _ _).alloc (Nat.le_refl _) _
  have hcall := hc (w.alloc (.cells #[.int .i64 k, .bool b, .int .i64 n, .string t, .string x, s] 26)) (hE.below hal) k b n t x s l (ha.stay hal) ht hx
  have hbk : Blk (w.alloc (.cells #[.int .i64 k, .bool b, .int .i64 n, .string t, .string x, s] 26)) w.heap.size #[.int .i64 k, .bool b, .int .i64 n, .string t, .string x, s] 26 := Blk.new _ _ _
  have hBl : B < w.heap.size := by
    obtain ⟨ob, ho, _⟩ := cells_of_cell hB
    exact (Array.getElem?_eq_some_iff.1 ho).1
  have cB := (hal.cell (p := ⟨B, 0, none⟩) hBl).trans hB
  obtain ⟨c, hcc⟩ : ∃ c, chkV d (.mk k b n t x l) = c := ⟨_, rfl⟩
  rw [hcc] at hcall ⊢
  obtain ⟨m, hm⟩ : ∃ m : Nat, 60 - (d + 1) = m := ⟨_, rfl⟩
  rw [hm] at cB
  rw [show 60 - d = m + 1 by omega] at hcall
  have hm60 : m < 60 := by omega
  clear hcc hc hB
  unfold agg6 at hcall ⊢
  rw [show ((m + 1 : Nat) : Int) = (m : Int) + 1 by omega] at hcall
  replace hcall := Lib.hid hcall
  go_enter Tryz.func100, Tryz.ntmps100
  go_wp2_with fail
  refine hcall.out.mono ?_
  rintro e w2 ⟨rfl, hb2⟩
  go_wp2
  go_ret
  exact ⟨rfl, hal.trans (hb2.mono hal.size)⟩
set_option maxRecDepth 100000 in
set_option maxHeartbeats 1000000 in
theorem index_any (N d : Nat) (hN : N ≤ 9223372036854775807) (hd : d < 60) (hc : Chk N d) (w : World) (hE : Env w) (B : Nat) (hB : w.cell? ⟨B, 0, none⟩ = some (.int .i64 ((60 - (d + 1) : Nat) : Int))) (ao : Option Addr) (cap : Nat) (l : List V) (hl : l.length ≤ N)
    (ha : ∀ j (hj : j < l.length), EA w N ao (6 * j) l[j]) :
    Calls Tryz.prog 139 #[.slice ao l.length cap, .func (.func 100) #[] #[.pointer (some ⟨B, 0, none⟩)]] w fun e w' => ∃ i : Int, e = .returned (.int .i64 i) ∧ decide (0 ≤ i) = !l.all (chkV d) ∧ Below w.heap.size w w' := by
  have hBl : B < w.heap.size := by
    obtain ⟨ob, ho, _⟩ := cells_of_cell hB
    exact (Array.getElem?_eq_some_iff.1 ho).1
  replace ha := Lib.hid ha
  replace hc := Lib.hid hc
  replace hB := Lib.hid hB
  replace hE := Lib.hid hE
  have hli : (l.length : Int) ≤ 9223372036854775807 := by omega
  go_enter Tryz.func139, Tryz.ntmps139
  go_wp2
  go_loopw [8] (fun v wr => ∃ k : Nat, k ≤ l.length ∧ v = .int .i64 k ∧ Hid (Below w.heap.size w wr) ∧ Hid (∀ j (hj : j < l.length), j < k → chkV d l[j] = true)) (fun v _ => l.length - (intOf v).toNat)
  case atStart => exact ⟨0, by omega, rfl, Below.refl _ _, fun j _ h => by omega⟩
  case round =>
    obtain ⟨k, hk, rfl, hb, hall⟩ := hrel
    by_cases hlt : k < l.length
    · have hki : (k : Int) < (l.length : Int) := by omega
      have hel := (ha.out k hlt).stay hb.out
      have hB1 := (hb.out.cell (p := ⟨B, 0, none⟩) hBl).trans hB.out
      have hE1 := hE.out.below hb.out
      obtain ⟨v, hv⟩ : ∃ v, l[k] = v := ⟨_, rfl⟩
      rw [hv, Nat.mul_comm 6 k] at hel
      replace hv := Lib.hid hv
      cases hel with
      | mk b off o k1 bo n t x l1 s hr hk1 hn ht hx hs =>
        have x0 := hr.c0
        have x1 := hr.c1
        have x2 := hr.c2
        have x3 := hr.c3
        have x4 := hr.c4
        have x5 := hr.c5
        have hcl := each_any N d hd hc.out wr hE1 B hB1 k1 bo n t x s l1 hs ht hx
        unfold agg6 at hcl
        replace hcl := Lib.hid hcl
        have hR : ∀ c, chkV d (.mk k1 bo n t x l1) = c → (c = false → l.all (chkV d) = false) ∧ (c = true → ∀ j (hj : j < l.length), j < k + 1 → chkV d l[j] = true) := fun c h => by
          rw [← hv.out] at h
          refine ⟨fun e => ?_, fun e j hj hjk => ?_⟩
          · rw [List.all_eq_false]
            exact ⟨l[k], List.getElem_mem hlt, by rw [h, e]; decide⟩
          · rcases Nat.lt_or_ge j k with h1 | h1
            · exact hall.out j hj h1
            · obtain rfl : j = k := by omega
              rw [h]; exact e
        obtain ⟨c, hcc⟩ : ∃ c, chkV d (.mk k1 bo n t x l1) = c := ⟨_, rfl⟩
        rw [hcc] at hcl
        have hR2 := hR c hcc
        clear hR hcc hall hr hs hk1 hn ht hx hv
        go_wp2_with fail
        refine hcl.out.mono ?_
        rintro e w2 ⟨rfl, hb2⟩
        have hb3 := Lib.hid (hb.out.trans (hb2.mono hb.out.size))
        clear hb2 hcl
        cases c
        · have hf := hR2.1 rfl
          clear hR2
          go_wp2
          go_ret
          exact ⟨(k : Int), rfl, by rw [hf]; simp, hb3.out⟩
        · have hf := Lib.hid (hR2.2 rfl)
          clear hR2
          go_wp2
          go_roundw
          case rel => exact ⟨k + 1, by omega, by go_num, hb3, hf⟩
          case measure => simp [intOf]; omega
    · have hki : ¬ (k : Int) < (l.length : Int) := by omega
      have hf : l.all (chkV d) = true := by
        rw [List.all_eq_true]
        intro v hv
        obtain ⟨j, hj, rfl⟩ := List.getElem_of_mem hv
        exact hall.out j hj (by omega)
      replace hf := Lib.hid hf
      clear hall
      go_wp2
      go_ret
      exact ⟨-1, rfl, by rw [hf.out]; decide, hb.out⟩
set_option maxRecDepth 100000 in
theorem contains_any (N d : Nat) (hN : N ≤ 9223372036854775807) (hd : d < 60) (hc : Chk N d) (w : World) (hE : Env w) (B : Nat) (hB : w.cell? ⟨B, 0, none⟩ = some (.int .i64 ((60 - (d + 1) : Nat) : Int))) (ao : Option Addr) (cap : Nat) (l : List V) (hl : l.length ≤ N)
    (ha : ∀ j (hj : j < l.length), EA w N ao (6 * j) l[j]) :
    Calls Tryz.prog 99 #[.slice ao l.length cap, .func (.func 100) #[] #[.pointer (some ⟨B, 0, none⟩)]] w fun e w' => e = .returned (.bool (!l.all (chkV d))) ∧ Below w.heap.size w w' := by
  have hi := index_any N d hN hd hc w hE B hB ao cap l hl ha
  replace hi := Lib.hid hi
  clear ha hB hc hE
  go_enter Tryz.func99, Tryz.ntmps99
  go_wp2_with fail
  refine hi.out.mono ?_
  rintro e w2 ⟨i, rfl, hi2, hb2⟩
  go_wp2
  go_ret
  exact ⟨rfl, hb2⟩
end Go.Proofs.YthecgifgjagmaaaGreatDoor.val
