/- The contract of read. -/
import Derived.Test.YtnocncmjdhlmkaaHRead
namespace Go.Proofs.Ytnocncmjdhlmkaa.hyp
open Go.ChangeShapes Go.WideShapes Go.ChangeAt Go.RowKit kit
set_option linter.unusedVariables false
set_option linter.unusedSimpArgs false
/-- What read hands back. -/
def RdOut (w0 : World) (R : Option (List ByteArray × List Nat)) (e : Ending) (w' : World) : Prop :=
  Below w0.heap.size w0 w' ∧ match R with
    | none => e = .returned (.tuple #[.pointer none, .bool false])
    | some r => ∃ gb mb, e = .returned (.tuple #[.pointer (some ⟨gb, 0, none⟩), .bool true]) ∧ GM w' gb mb r.1 r.2 ∧ w0.heap.size ≤ gb ∧ w0.heap.size ≤ mb
theorem infoStr : (Try.prog.info? 9).map (fun i => (i.zero, i.size, i.bytes)) = some (some (.string ByteArray.empty), 1, 16) := by kernel_rfl
theorem infoSV : (Try.prog.info? 57).map (fun i => (i.zero, i.size, i.bytes)) = some (some (.int .u16 0), 1, 2) := by kernel_rfl
/-- What the lists are while reading. -/
structure RI (ns : List ByteArray) (ms : List Nat) (k : Nat) : Prop where
  len : ms.length = k
  names : ns.length ≤ 12
  masks : ∀ e ∈ ms, e < 65536
  size : ∀ s ∈ ns, s.size ≤ maxLen
set_option maxRecDepth 100000 in
set_option maxHeartbeats 8000000 in
theorem read_any (w : World) (ao : Option Addr) (cap : Nat) (E : List (List ByteArray)) (hl : E.length ≤ 1048576) (hle : ∀ e ∈ E, e.length ≤ 1048576) (hE : EdgesA w w.heap.size (.slice ao E.length cap) E) :
    Calls Try.prog 27 #[.slice ao E.length cap] w fun e w' => RdOut w (readG nameB E) e w' := by
  by_cases h8 : 8 < E.length
  · have h8i : (8 : Int) < (E.length : Int) := by omega
    have hR : readG nameB E = none := by unfold readG; rw [if_neg (by omega)]
    rw [hR]
    clear hE hR
    go_enter Try.func27, Try.ntmps27
    go_wp2
    go_ret2
    exact ⟨Below.refl _ _, rfl⟩
  · have h8i : ¬ (8 : Int) < (E.length : Int) := by omega
    have hR : readG nameB E = readL nameB E [] [] := by unfold readG; rw [if_pos (by omega)]
    obtain ⟨R, hRR⟩ : ∃ R, readG nameB E = R := ⟨_, rfl⟩
    rw [hRR] at hR ⊢
    clear hRR
    have hmm := @run_makeMap Try.prog
    replace hE := Lib.hid hE
    replace hR := Lib.hid hR
    replace hle : ∀ e ∈ E, e.length ≤ 1048576 := hle
    have hE8 : E.length ≤ 8 := by omega
    obtain ⟨i0, hi, hz0, hz1, hz2⟩ := info_parts infoStr
    obtain ⟨i1, hi1, hy0, hy1, hy2⟩ := info_parts infoSV
    replace hi := Lib.hid hi
    replace hz0 := Lib.hid hz0
    replace hz1 := Lib.hid hz1
    replace hz2 := Lib.hid hz2
    replace hi1 := Lib.hid hi1
    replace hy0 := Lib.hid hy0
    replace hy1 := Lib.hid hy1
    replace hy2 := Lib.hid hy2
    have hRS : RS w ((w.alloc (.map #[] 0)).alloc (.cells #[.slice none 0 0, .slice none 0 0, .map (some w.heap.size)] 63)) (w.heap.size + 1) w.heap.size (.slice none 0 0) (.slice none 0 0) [] [] := by
      refine ⟨((Below.refl _ _).alloc (Nat.le_refl _) _).alloc (by simp) _, ?_, World.ownsRow_nil _ _ _ _, World.ownsRow_nil _ _ _ _, ((MapI.made w).alloc _).mono (by omega), by omega, by omega⟩
      have := Blk.new (w.alloc (.map #[] 0)) #[.slice none 0 0, .slice none 0 0, .map (some w.heap.size)] 63
      rw [World.size_alloc] at this
      exact this
    replace hRS := Lib.hid hRS
    go_enter Try.func27, Try.ntmps27
    go_wp2
    generalize ((w.alloc (.map #[] 0)).alloc (.cells #[.slice none 0 0, .slice none 0 0, .map (some w.heap.size)] 63)) = w2 at *
    obtain ⟨gb, hgb⟩ : ∃ g, w.heap.size + 1 = g := ⟨_, rfl⟩
    obtain ⟨mb, hmb⟩ : ∃ m, w.heap.size = m := ⟨_, rfl⟩
    rw [hgb] at hRS ⊢
    replace hRS : Hid (RS w w2 gb mb (.slice none 0 0) (.slice none 0 0) [] []) := by rw [← hmb]; exact hRS
    rw [hmb]
    clear hgb hmb hmm
    go_loopw [19] (fun i wr => ∃ (k : Nat) (ns : List ByteArray) (ms : List Nat), k ≤ E.length ∧ i = .int .i64 (k : Int) ∧ Hid (∃ vn ve, RS w wr gb mb vn ve ns ms) ∧ Hid (readL nameB (E.drop k) ns ms = R) ∧ Hid (RI ns ms k)) (fun i _ => E.length - (intOf i).toNat)
    case atStart => exact ⟨0, [], [], by omega, rfl, Lib.hid ⟨_, _, hRS.out⟩, Lib.hid hR.out.symm, Lib.hid ⟨rfl, by simp, (fun e he => by cases he), (fun s hs => by cases hs)⟩⟩
    case round =>
      obtain ⟨k, ns, ms, hk, rfl, hex, hrd, hri⟩ := hrel
      by_cases hlt : k < E.length
      · have hki : (k : Int) < (E.length : Int) := by omega
        obtain ⟨ao2, cap2, hv2, hes⟩ := hE.out.form
        obtain ⟨rfl, rfl⟩ : ao2 = ao ∧ cap2 = cap := by
          injection hv2 with h1 h2 h3
          exact ⟨h1.symm, h3.symm⟩
        obtain ⟨b, off, u, rfl, hbw, hcu, htu⟩ := hes k hlt
        obtain ⟨au, cu, rfl, hus⟩ := htu.form
        have hsz := htu.size
        have hel := hle _ (List.getElem_mem hlt)
        have hdr : E.drop k = E[k] :: E.drop (k + 1) := List.drop_eq_getElem_cons hlt
        rw [hdr] at hrd
        have hk1 := Lib.hid (show k + 1 ≤ E.length from hlt)
        clear hdr hes htu hv2
        generalize E[k] = e at *
        clear hlt
        obtain ⟨vn, ve, hRS1⟩ := hex.out
        have c0 : wr.cell? ⟨b, off + k, none⟩ = some (.slice au e.length cu) := (cell_heap (hRS1.below.block b hbw)).trans hcu
        have hrd2 : Hid ((match readE nameB e ns 0 with | none => none | some r => readL nameB (E.drop (k + 1)) r.1 (ms ++ [r.2])) = R) := hrd
        replace hex := Lib.hid hex.out
        replace hus := Lib.hid hus
        replace hsz := Lib.hid hsz
        clear hrd hRS1 hcu hRS
        have hri2 := Lib.hid (show RI ns ms k from hri.out)
        go_wp2
        go_loopw [7, 25] (fun s j wr => ∃ (m : Nat) (ns : List ByteArray) (u : Nat), m ≤ e.length ∧ j = .int .i64 (m : Int) ∧ s = .int .u16 (u : Int) ∧ u < 65536 ∧ Hid (∃ vn ve, RS w wr gb mb vn ve ns ms) ∧ Hid ((match readE nameB (e.drop m) ns u with | none => none | some r => readL nameB (E.drop (k + 1)) r.1 (ms ++ [r.2])) = R) ∧ Hid (RI ns ms k)) (fun _ j _ => e.length - (intOf j).toNat)
        case atStart => exact ⟨0, ns, 0, by omega, rfl, rfl, by omega, hex, hrd2, hri2⟩
        case round =>
          clear hex hrd2 hri2 hri c0
          obtain ⟨m, ns, u, hm, rfl, rfl, hu, hex, hrd, hri⟩ := hrel
          obtain ⟨vn, ve, hRS⟩ := hex.out
          clear hex
          by_cases hlt : m < e.length
          · have hmi : (m : Int) < (e.length : Int) := by omega
            have hm1 := Lib.hid (show m + 1 ≤ e.length from hlt)
            obtain ⟨b2, off2, rfl, hb2, hcx⟩ := hus.out m hlt
            have c1 := (cell_heap (hRS.below.block b2 hb2)).trans hcx
            have hxz := hsz.out _ (List.getElem_mem hlt)
            have hdr : e.drop m = e[m] :: e.drop (m + 1) := List.drop_eq_getElem_cons hlt
            rw [hdr, readE] at hrd
            generalize e[m] = x at *
            clear hdr hcx hlt
            obtain ⟨an, cn, rfl, -, hnc⟩ := (own_row (by rw [textsV_length]; exact hRS.names) : RowA _ _ vn (textsV ns)).form
            rw [textsV_length] at hRS
            have hnc2 : ∀ j (hj : j < ns.length), ∃ b off, an = some ⟨b, off, none⟩ ∧ b < wr.heap.size ∧ wr.cell? ⟨b, off + j, none⟩ = some (.string ns[j]) := fun j hj => by
              obtain ⟨b, off, h1, h2, h3⟩ := hnc j (by simpa using hj)
              exact ⟨b, off, h1, h2, by rw [h3]; simp [textsV]⟩
            have hn12 := hri.out.names
            have hix := Lib.hid (index_any wr an cn ns x (by omega) hnc2)
            have z0 := hRS.blk.cell 0 rfl
            replace hRS := Lib.hid hRS
            clear hnc hnc2
            have hnone := Lib.hid (show ¬ (nameB x && decide (ns.idxOf x < 12) && !u.testBit (ns.idxOf x)) = true → R = none from fun h => by
              rw [if_neg h] at hrd; exact hrd.out.symm)
            have hsome := Lib.hid (show (nameB x && decide (ns.idxOf x < 12) && !u.testBit (ns.idxOf x)) = true → (match readE nameB (e.drop (m + 1)) (addN ns x) (u ||| bit (ns.idxOf x)) with | none => none | some r => readL nameB (E.drop (k + 1)) r.1 (ms ++ [r.2])) = R from fun h => by
              rw [if_pos h] at hrd; exact hrd.out)
            have hri3 := Lib.hid (show ns.idxOf x < 12 → RI (addN ns x) ms k from fun h => ⟨hri.out.len, (addN_length ns x hn12).2 h, hri.out.masks, fun s hs => by
              unfold addN at hs
              split at hs
              · exact hri.out.size s hs
              · rcases List.mem_append.1 hs with hs | hs
                · exact hri.out.size s hs
                · rw [List.mem_singleton] at hs; rw [hs]; exact hxz⟩)
            have hilen : ns.idxOf x ≤ ns.length := List.idxOf_le_length
            clear hrd hri
            by_cases hmem : x ∈ ns
            · have hid : idxI ns x = ((ns.idxOf x : Nat) : Int) := by unfold idxI; rw [if_pos hmem]
              have had : addN ns x = ns := by unfold addN; rw [if_pos hmem]
              rw [hid] at hix
              rw [had] at hsome hri3
              clear hid had hmem
              generalize ns.idxOf x = i at *
              have hneg : ¬ (i : Int) < 0 := by omega
              go_wp2_with fail
              refine hix.out.mono ?_
              rintro e1 w3 ⟨rfl, rfl⟩
              go_wp2_with fail
              have hwd := Lib.hid (fun W => word_any x W (by unfold maxLen at hxz; omega))
              have hbelow := Lib.hid hRS.out.below
              cases hnx : nameB x with
              | false =>
                have hR0 := Lib.hid (hnone.out (fun h => by rw [hnx] at h; cases h))
                rw [hnx] at hwd
                go_wp2_with (go_at_call 50; refine (hwd.out _).mono ?_; rintro e1 w4 ⟨rfl, rfl⟩)
                go_ret2
                exact ⟨hbelow.out, by rw [hR0.out]; rfl⟩
              | true =>
                rw [hnx] at hwd
                by_cases h12 : i < 12
                · have h12i : ¬ (12 : Int) ≤ (i : Int) := by omega
                  have hha := Lib.hid (fun W => has_v u i W hu (by omega))
                  cases hbt : u.testBit i with
                  | true =>
                    have hR0 := Lib.hid (hnone.out (fun h => by rw [hbt] at h; simp at h))
                    rw [hbt] at hha
                    go_wp2_with (first | (go_at_call 50; refine (hwd.out _).mono ?_; rintro e1 w4 ⟨rfl, rfl⟩) | (go_at_call 32; refine (hha.out _).mono ?_; rintro e1 w4 ⟨rfl, rfl⟩))
                    go_ret2
                    exact ⟨hbelow.out, by rw [hR0.out]; rfl⟩
                  | false =>
                    have hR0 := Lib.hid (hsome.out (by rw [hnx, hbt]; simp [h12]))
                    rw [hbt] at hha
                    have hwi := Lib.hid (fun W => with_v u i W hu (by omega))
                    have hu2 : u ||| bit i < 65536 := or_lt hu (bit_lt (by omega))
                    have hri2 := Lib.hid (hri3.out h12)
                    generalize u ||| bit i = u2 at *
                    go_wp2_with (first | (go_at_call 50; refine (hwd.out _).mono ?_; rintro e1 w4 ⟨rfl, rfl⟩) | (go_at_call 32; refine (hha.out _).mono ?_; rintro e1 w4 ⟨rfl, rfl⟩) | (go_at_call 51; refine (hwi.out _).mono ?_; rintro e1 w4 ⟨rfl, rfl⟩))
                    go_roundw
                    case rel => exact ⟨m + 1, ns, u2, hm1.out, by go_num, rfl, hu2, Lib.hid ⟨_, _, hRS.out⟩, hR0, hri2⟩
                    case measure => have := hm1.out; simp [intOf]; omega
                · have h12i : (12 : Int) ≤ (i : Int) := by omega
                  have hR0 := Lib.hid (hnone.out (fun h => by simp [h12] at h))
                  go_wp2_with (go_at_call 50; refine (hwd.out _).mono ?_; rintro e1 w4 ⟨rfl, rfl⟩)
                  go_ret2
                  exact ⟨hbelow.out, by rw [hR0.out]; rfl⟩
            · have hid : idxI ns x = -1 := by unfold idxI; rw [if_neg hmem]
              have had : addN ns x = ns ++ [x] := by unfold addN; rw [if_neg hmem]
              have hil : ns.idxOf x = ns.length := List.idxOf_eq_length hmem
              rw [hid] at hix
              rw [had] at hsome hri3
              rw [hil] at hsome hri3 hnone
              clear hid had hmem hil hilen
              have hneg : (-1 : Int) < 0 := by omega
              have hown : wr.ownsRow w.heap.size 9 1 (.slice an ns.length cn) (textsV ns).length (textsV ns) := by rw [textsV_length]; exact hRS.out.names
              have hws := hRS.out.below.size
              have hnl : (textsV ns).length ≤ 12 := by rw [textsV_length]; exact hn12
              go_wp2_with fail
              refine hix.out.mono ?_
              rintro e1 w3 ⟨rfl, rfl⟩
              go_wp2_with (at_builtin; refine wpList_append_own _ rfl _ _ 35 rfl w.heap.size 9 i0 (.string ByteArray.empty) 1 16 Try.underlying35 hi.out hz0.out hz1.out hz2.out rfl (by decide) _ (textsV ns).length (textsV ns) rfl (hown.alloc _) _ 1 _ [.string x] rfl rfl ?c1 ?c2 ?c3 ?c4 ?c5 ?c6)
              case c1 => exact news_one _ _ _
              case c2 => simp [Value.oneCell']
              case c3 => simp only [maxLen]; omega
              case c4 => omega
              case c5 => simp; omega
              case c6 =>
                intro v' w5 h1 h2 _
                obtain ⟨a5, c5, rfl, -, -⟩ := (own_row (L := textsV ns ++ [.string x]) (by rw [List.length_append, textsV_length]; exact h1) : RowA w5 _ v' _).form
                simp only [List.length_append, textsV_length, List.length_cons, List.length_nil, Nat.zero_add] at h1
                have hRS2 := hRS.out.name _ x (by rw [textsV_length]; exact h1) h2
                have hb1 : Blk w5 gb #[.slice an ns.length cn, ve, .map (some mb)] 63 := (h2.block gb (by rw [World.size_alloc]; have := hRS.out.blk.lt; omega) (own_not (hRS.out.names.alloc _) (hRS.out.blk.alloc (.cells #[.string x] 9)) (by decide)).symm).trans (hRS.out.blk.alloc _)
                have z0 := hb1.cell 0 rfl
                have f0 := hb1.free 0
                replace hRS2 := Lib.hid hRS2
                clear hown h1 h2 hRS hb1
                have hn12' : ns.length ≤ 12 := hn12
                generalize hil : ns.length = i at *
                have hl1 : (ns ++ [x]).length = i + 1 := by rw [List.length_append, hil]; rfl
                go_wp2_with fail
                generalize w5.setCell ⟨gb, 0, none⟩ (.slice a5 (i + 1) c5) = w6 at *
                have hwd := Lib.hid (fun W => word_any x W (by unfold maxLen at hxz; omega))
                have hbelow := Lib.hid hRS2.out.below
                cases hnx : nameB x with
                | false =>
                  have hR0 := Lib.hid (hnone.out (fun h => by rw [hnx] at h; cases h))
                  rw [hnx] at hwd
                  go_wp2_with (go_at_call 50; refine (hwd.out _).mono ?_; rintro e1 w4 ⟨rfl, rfl⟩)
                  go_ret2
                  exact ⟨hbelow.out, by rw [hR0.out]; rfl⟩
                | true =>
                  rw [hnx] at hwd
                  by_cases h12 : i < 12
                  · have h12i : ¬ (12 : Int) ≤ (i : Int) := by omega
                    have hha := Lib.hid (fun W => has_v u i W hu (by omega))
                    cases hbt : u.testBit i with
                    | true =>
                      have hR0 := Lib.hid (hnone.out (fun h => by rw [hbt] at h; simp at h))
                      rw [hbt] at hha
                      go_wp2_with (first | (go_at_call 50; refine (hwd.out _).mono ?_; rintro e1 w4 ⟨rfl, rfl⟩) | (go_at_call 32; refine (hha.out _).mono ?_; rintro e1 w4 ⟨rfl, rfl⟩))
                      go_ret2
                      exact ⟨hbelow.out, by rw [hR0.out]; rfl⟩
                    | false =>
                      have hR0 := Lib.hid (hsome.out (by rw [hnx, hbt]; simp [h12]))
                      rw [hbt] at hha
                      have hwi := Lib.hid (fun W => with_v u i W hu (by omega))
                      have hu2 : u ||| bit i < 65536 := or_lt hu (bit_lt (by omega))
                      have hri2 := Lib.hid (hri3.out h12)
                      generalize u ||| bit i = u2 at *
                      go_wp2_with (first | (go_at_call 50; refine (hwd.out _).mono ?_; rintro e1 w4 ⟨rfl, rfl⟩) | (go_at_call 32; refine (hha.out _).mono ?_; rintro e1 w4 ⟨rfl, rfl⟩) | (go_at_call 51; refine (hwi.out _).mono ?_; rintro e1 w4 ⟨rfl, rfl⟩))
                      go_roundw
                      case rel => exact ⟨m + 1, ns ++ [x], u2, hm1.out, by go_num, rfl, hu2, Lib.hid ⟨_, _, hRS2.out⟩, hR0, hri2⟩
                      case measure => have := hm1.out; simp [intOf]; omega
                  · have h12i : (12 : Int) ≤ (i : Int) := by omega
                    have hR0 := Lib.hid (hnone.out (fun h => by simp [h12] at h))
                    go_wp2_with (go_at_call 50; refine (hwd.out _).mono ?_; rintro e1 w4 ⟨rfl, rfl⟩)
                    go_ret2
                    exact ⟨hbelow.out, by rw [hR0.out]; rfl⟩
          · have hmi : ¬ (m : Int) < (e.length : Int) := by omega
            obtain rfl : m = e.length := by omega
            have hrd2 := hrd.out
            rw [List.drop_length, readE] at hrd2
            have hown0 : wr.ownsRow w.heap.size 57 1 ve (masksV ms).length (masksV ms) := by rw [masksV_length]; exact hRS.edges
            obtain ⟨ae, ce, rfl, -, -⟩ := (own_row hown0 : RowA wr _ ve _).form
            rw [masksV_length] at hRS
            have hown : wr.ownsRow w.heap.size 57 1 (.slice ae ms.length ce) (masksV ms).length (masksV ms) := by rw [masksV_length]; exact hRS.edges
            clear hown0
            have hml : (masksV ms).length ≤ 8 := by rw [masksV_length]; have := hri.out.len; omega
            have hws := hRS.below.size
            have hml2 : ms.length ≤ 8 := by have := hri.out.len; omega
            have z1 := hRS.blk.cell 1 rfl
            have hri2 : RI ns (ms ++ [u]) (k + 1) := ⟨by rw [List.length_append, hri.out.len]; rfl, hri.out.names, fun e he => by
              rcases List.mem_append.1 he with he | he
              · exact hri.out.masks e he
              · rw [List.mem_singleton] at he; rw [he]; exact hu, hri.out.size⟩
            replace hRS := Lib.hid hRS
            replace hrd2 := Lib.hid hrd2
            replace hri2 := Lib.hid hri2
            clear hrd hri
            go_wp2_with (at_builtin; refine wpList_append_own _ rfl _ _ 59 rfl w.heap.size 57 i1 (.int .u16 0) 1 2 Try.underlying59 hi1.out hy0.out hy1.out hy2.out rfl (by decide) _ (masksV ms).length (masksV ms) rfl (hown.alloc _) _ 1 _ [.int .u16 (u : Int)] rfl rfl ?d1 ?d2 ?d3 ?d4 ?d5 ?d6)
            case d2 => rfl
            case d3 => simp only [maxLen]; omega
            case d4 => omega
            case d5 => omega
            case d6 =>
              intro v' w5 h1 h2 _
              obtain ⟨a5, c5, rfl, -, -⟩ := (own_row (L := masksV ms ++ [.int .u16 (u : Int)]) (by rw [List.length_append, masksV_length]; exact h1) : RowA w5 _ v' _).form
              simp only [List.length_append, masksV_length, List.length_cons, List.length_nil, Nat.zero_add] at h1
              have hRS2 := hRS.out.edge _ u (by rw [masksV_length]; exact h1) h2
              have hb1 : Blk w5 gb #[vn, .slice ae ms.length ce, .map (some mb)] 63 := (h2.block gb (by rw [World.size_alloc]; have := hRS.out.blk.lt; omega) (own_not (hRS.out.edges.alloc _) (hRS.out.blk.alloc (.cells #[.int .u16 (u : Int)] 57)) (by decide)).symm).trans (hRS.out.blk.alloc _)
              have z1 := hb1.cell 1 rfl
              have f1 := hb1.free 1
              replace hRS2 := Lib.hid hRS2
              clear hown h1 h2 hRS hb1
              go_wp2
              go_roundw
              case rel => exact ⟨k + 1, ns, ms ++ [u], hk1.out, by go_num, Lib.hid ⟨_, _, hRS2.out⟩, hrd2, hri2⟩
              case measure => have := hk1.out; simp [intOf]; omega
      · have hki : ¬ (k : Int) < (E.length : Int) := by omega
        obtain rfl : k = E.length := by omega
        obtain ⟨vn, ve, hRS1⟩ := hex.out
        have hR2 := hrd.out
        rw [List.drop_length, readL] at hR2
        have hout := Lib.hid (show RdOut w R (.returned (.tuple #[.pointer (some ⟨gb, 0, none⟩), .bool true])) wr from ⟨hRS1.below, by
          rw [← hR2]
          exact ⟨gb, mb, rfl, hRS1.gm hri.out.masks (by have := hri.out.len; omega) hri.out.names hri.out.size, hRS1.gb, hRS1.mb⟩⟩)
        clear hR2 hRS1 hex hrd hri
        go_wp2
        go_ret2
        exact hout.out
end Go.Proofs.Ytnocncmjdhlmkaa.hyp
