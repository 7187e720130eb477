/- Contract of rows.key: a row's bytes. -/
import Derived.Test.YtjpondgobogkeaaGreatDoorTabMem
import Derived.Test.YtjpondgobogkeaaGreatDoorVEnc
import Derived.Laws.IdiomStrings
import Derived.Laws.BytesString
namespace Go.Proofs.YtjpondgobogkeaaGreatDoor.tab
open Go.ChangeShapes Go.WideShapes Go.ChangeAt Go.RowKit kit dec val
set_option linter.unusedVariables false
set_option linter.unusedSimpArgs false
theorem conv_own {w : World} {B : Nat} {v : Value} {L : List UInt8} (h : w.ownsRow B 5 1 v L.length (bytesV L)) : (convert 84 9 v).run Tryz.prog w = .ok (.string ⟨L.toArray⟩) w := by
  rcases id h.2 with ⟨hv, hn⟩ | ⟨g, cap, cur, hv, hr⟩
  · subst hv
    obtain rfl : L = [] := List.eq_nil_of_length_eq_zero hn
    rw [run_convert_bytes_string w 84 9 5 none 0 0 Tryz.underlying84 Tryz.underlying5 Tryz.underlying9]
    rfl
  · subst hv
    refine run_convert_bytes_back (P := Tryz.prog) w 84 9 5 ⟨g, 0, none⟩ cap L Tryz.underlying84 Tryz.underlying5 Tryz.underlying9 ?_
    intro j hj
    have h2 := h.cells rfl j (.int .u8 (L[j].toNat : Int)) (by simp [bytesV, hj])
    exact h2
theorem encV_ne (v : V) : 0 < (encV v).length := by
  cases v with
  | mk k b n t x l => rw [encV]; simp
theorem encL_snoc (l : List V) (v : V) : encL (l ++ [v]) = encL l ++ encV v := by
  induction l with
  | nil => simp [encL]
  | cons a l ih => rw [List.cons_append, encL, encL, ih, List.append_assoc]
theorem encV_of {l : List V} {k : Nat} (h : k < l.length) : (encL (l.take (k + 1))).length ≤ (encL l).length ∧ encL (l.take (k + 1)) = encL (l.take k) ++ encV l[k] := by
  refine ⟨encL_take_le l (k + 1), encL_take l k h⟩
set_option maxRecDepth 100000 in
set_option maxHeartbeats 2000000 in
theorem key_any (N : Nat) (hN : N ≤ 9223372036854775807) (w : World) (hE : Env w) (s : Value) (l : List V) (hs : LA w N s l) (hm : ∀ v ∈ l, mayV v = true) (hlen : (encL l).length ≤ 10000000) :
    Calls Tryz.prog 40 #[s] w fun e w' => e = .returned (.string ⟨(encL l).toArray⟩) ∧ Below w.heap.size w w' := by
  obtain ⟨i0, hi, hz0, hz1, hz2⟩ := info_parts Tryz.infoB
  replace hi := Lib.hid hi
  replace hz0 := Lib.hid hz0
  replace hz1 := Lib.hid hz1
  replace hz2 := Lib.hid hz2
  obtain ⟨ao, cap, rfl⟩ := hs.form6
  have hNl := (hs.elems _ _ _ rfl).1
  have hli : (l.length : Int) ≤ 9223372036854775807 := by omega
  have ha := Lib.hid hs
  replace hE := Lib.hid hE
  replace hm := Lib.hid hm
  clear hs
  go_enter Tryz.func40, Tryz.ntmps40
  go_wp2
  go_loopw [3, 10] (fun o i wr => ∃ k : Nat, k ≤ l.length ∧ i = .int .i64 (k : Int) ∧ Hid (BW w w.heap.size o (encL (l.take k)) wr)) (fun _ i _ => l.length - (intOf i).toNat)
  case atStart => exact ⟨0, by omega, rfl, Lib.hid (BW.start w)⟩
  case round =>
    obtain ⟨k, hk, rfl, hW⟩ := hrel
    obtain ⟨w0, rfl⟩ : ∃ w0 : World, w0 = wr := ⟨_, rfl⟩
    by_cases hlt : k < l.length
    · have hki : (k : Int) < (l.length : Int) := by omega
      have hk1 := Lib.hid (show k + 1 ≤ l.length from hlt)
      obtain ⟨b1, off, k1, bo, n1, t1, x1, l1, aoE, capE, rfl, he, hr, hok, hsl⟩ := la_at (ha.out.stay hW.out.below) k hlt
      obtain ⟨hl1, hl2⟩ := encV_of hlt
      have hmv := hm.out _ (List.getElem_mem hlt)
      rw [he] at hl2 hmv
      have hne := encV_ne (.mk k1 bo n1 t1 x1 l1)
      have hlv : (encV (.mk k1 bo n1 t1 x1 l1)).length ≤ 10000000 := by rw [hl2, List.length_append] at hl1; omega
      have hlk : (encL (l.take k)).length ≤ 10000000 := by rw [hl2, List.length_append] at hl1; omega
      obtain ⟨x0, x1a, x2, x3, x4, x5⟩ := hr.six
      have hal : Below w0.heap.size w0 (w0.alloc (.cells #[.int .i64 k1, .bool bo, .int .i64 n1, .string t1, .string x1, .slice aoE l1.length capE] 38)) := (Below.refl _ _).alloc (Nat.le_refl _) _
      have hen := encode_call N hN (w0.alloc (.cells #[.int .i64 k1, .bool bo, .int .i64 n1, .string t1, .string x1, .slice aoE l1.length capE] 38)) (hE.out.below (hW.out.below.trans (hal.mono hW.out.below.size))) k1 bo n1 hok.1 hok.2.1 t1 x1 _ l1 (hsl.stay hal) hok.2.2.1 hok.2.2.2 hlv
      unfold encR at hen
      rw [hmv] at hen
      simp only [if_true] at hen
      unfold agg6 at hen
      generalize encV (.mk k1 bo n1 t1 x1 l1) = ev at *
      generalize hE2 : encL (l.take (k + 1)) = E2 at *
      replace hE2 := Lib.hid hE2
      generalize encL (l.take k) = E1 at *
      have hE := Blk.new w0 #[.int .i64 k1, .bool bo, .int .i64 n1, .string t1, .string x1, .slice aoE l1.length capE] 38
      have y0 := hE.cell 0 rfl
      have y1 := hE.cell 1 rfl
      have y2 := hE.cell 2 rfl
      have y3 := hE.cell 3 rfl
      have y4 := hE.cell 4 rfl
      have y5 := hE.cell 5 rfl
      replace hen := Lib.hid hen
      replace hal := Lib.hid hal
      replace hl2 := Lib.hid hl2
      clear hr he hsl hlt hE hmv hok
      go_wp2_with fail
      refine hen.out.mono ?_
      rintro e w5 ⟨v5, rfl, hB5⟩
      have hW5 := hW.out.on hW.out.below.size (hal.out.trans (hB5.below.mono hal.out.size))
      obtain ⟨g5, c5, rfl, hnews⟩ : ∃ g c, v5 = .slice (some ⟨g, 0, none⟩) ev.length c ∧ ∀ j u, (bytesV ev)[j]? = some u → w5.cell? ((⟨g, 0, none⟩ : Addr).add j) = some u := by
        rcases hB5.own.2 with ⟨hv, hn⟩ | ⟨g, c, cur, hv, _⟩
        · omega
        · subst hv
          exact ⟨g, c, rfl, hB5.own.cells rfl⟩
      have hown := hW5.own
      have hb5 := hW5.below.size
      have hnl : (bytesV ev).length = ev.length * 1 := by simp [bytesV]
      have hone : ∀ u ∈ bytesV ev, u.oneCell' = true := fun u hu => by obtain ⟨x, -, rfl⟩ := List.mem_map.1 hu; rfl
      replace hW5 := Lib.hid hW5
      clear hW hen hal hB5
      go_wp2_with (at_builtin; refine wpList_append_own _ rfl _ _ 84 rfl w.heap.size 5 i0 (.int .u8 0) 1 1 Tryz.underlying84 hi.out hz0.out hz1.out hz2.out rfl (by decide) u3 E1.length (bytesV E1) rfl hown ⟨g5, 0, none⟩ ev.length c5 (bytesV ev) rfl hnl hnews hone ?ka ?kb hb5 ?kc)
      case ka => simp only [maxLen]; omega
      case kb => omega
      case kc =>
        intro v7 w7 h1 h2 _
        have h7 := hW5.out.grown0 hb5 h1 h2
        rw [← hl2.out] at h7
        replace h7 := Lib.hid h7
        clear h1 h2 hown hnews hW5
        go_wp2
        go_roundw
        case rel => exact ⟨k + 1, hk1.out, by go_num, by rw [hE2.out]; exact h7⟩
        case measure => have := hk1.out; simp [intOf]; omega
    · have hki : ¬ (k : Int) < (l.length : Int) := by omega
      obtain rfl : k = l.length := by omega
      rw [List.take_length] at hW
      have hcv := conv_own hW.out.own
      go_wp2
      go_ret
      exact ⟨rfl, hW.out.below⟩
end Go.Proofs.YtjpondgobogkeaaGreatDoor.tab
