/- The contract of Check. -/
import Derived.Test.YtnocncmjdhlmkaaHChk2
namespace Go.Proofs.Ytnocncmjdhlmkaa.hyp
open Go.ChangeShapes Go.WideShapes Go.ChangeAt Go.RowKit kit
set_option linter.unusedVariables false
set_option linter.unusedSimpArgs false
/-- Bags in memory, to be read. -/
def BagsA (w : World) (B : Nat) (v : Value) (bs : List BagD) : Prop :=
  ∃ ao cap, v = .slice ao bs.length cap ∧ ∀ j (hj : j < bs.length), ∃ b off vv ve, ao = some ⟨b, off, none⟩ ∧ b < B ∧ w.cell? ⟨b, off + j * 3, none⟩ = some vv ∧ w.cell? ⟨b, off + j * 3 + 1, none⟩ = some ve ∧ w.cell? ⟨b, off + j * 3 + 2, none⟩ = some (.int .i64 bs[j].parent) ∧ TextsA w B vv bs[j].names ∧ RowA w B ve (numsV bs[j].edges)
theorem BagsA.stay {w w' : World} {B : Nat} {v : Value} {bs : List BagD} (h : BagsA w B v bs) (hs : CellsStay w w') : BagsA w' B v bs := by
  obtain ⟨ao, cap, hv, hj⟩ := h
  refine ⟨ao, cap, hv, fun j hjl => ?_⟩
  obtain ⟨b, off, vv, ve, h1, h2, h3, h4, h5, h6, h7⟩ := hj j hjl
  exact ⟨b, off, vv, ve, h1, h2, hs.cell h3, hs.cell h4, hs.cell h5, h6.stay hs, h7.stay hs⟩
theorem BagsA.mono {w : World} {B B' : Nat} {v : Value} {bs : List BagD} (h : BagsA w B v bs) (hB : B ≤ B') : BagsA w B' v bs := by
  obtain ⟨ao, cap, hv, hj⟩ := h
  refine ⟨ao, cap, hv, fun j hjl => ?_⟩
  obtain ⟨b, off, vv, ve, h1, h2, h3, h4, h5, h6, h7⟩ := hj j hjl
  exact ⟨b, off, vv, ve, h1, by omega, h3, h4, h5, h6.mono hB, h7.mono hB⟩
theorem setsF_spec {ns : List ByteArray} {ms : List Nat} {width : Int} : ∀ (bs : List BagD) (i : Nat) (acc sets : List Nat), setsF ns ms width bs i acc = some sets → sets.length = acc.length + bs.length ∧ ∀ j (hj : j < bs.length), parOK (i + j) bs[j].parent = true
  | [], i, acc, sets, h => by
    rw [setsF] at h
    cases h
    exact ⟨rfl, fun j hj => by simp at hj⟩
  | b :: bs, i, acc, sets, h => by
    rw [setsF] at h
    by_cases hc : (parOK i b.parent && decide ((b.edges.length : Int) ≤ width)) = true
    · rw [if_pos hc] at h
      cases hs : setP ns ms b.names b.edges with
      | none => rw [hs] at h; cases h
      | some s =>
        rw [hs] at h
        obtain ⟨h1, h2⟩ := setsF_spec bs (i + 1) _ _ h
        rw [Bool.and_eq_true] at hc
        refine ⟨by rw [h1]; simp; omega, fun j hj => ?_⟩
        match j, hj with
        | 0, _ => exact hc.1
        | j + 1, hj =>
          have := h2 j (by simpa using hj)
          rw [show i + (j + 1) = i + 1 + j by omega]
          exact this
    · rw [if_neg hc] at h
      cases h
theorem topsF_succ (bs : List BagD) (sets : List Nat) (v n : Nat) : topsF bs sets v (n + 1) = topsF bs sets v n + (if topAt bs sets v n then 1 else 0) := by
  unfold topsF
  rw [List.range_succ, List.filter_append, List.length_append]
  congr 1
  cases h : topAt bs sets v n <;> simp [h]
theorem topsF_le (bs : List BagD) (sets : List Nat) (v n : Nat) : topsF bs sets v n ≤ n := by
  have := List.length_filter_le (fun i => topAt bs sets v i) (List.range n)
  unfold topsF
  simpa using this
theorem OW.on {e : TypeId} {W W1 w' : World} {B : Nat} {v : Value} {L : List Value} (h : OW e W B v L W1) (hB : B ≤ W1.heap.size) (hb : Below W1.heap.size W1 w') : OW e W B v L w' :=
  ⟨h.below.trans (hb.mono hB), h.own.kept (grown_below hb) (by cases v.ownBlock <;> simp)⟩
set_option maxRecDepth 100000 in
set_option maxHeartbeats 8000000 in
theorem check_any (w : World) (ao : Option Addr) (cap : Nat) (E : List (List ByteArray)) (bs : List BagD) (lv : Value) (width : Int) (hl : E.length ≤ 1048576) (hle : ∀ e ∈ E, e.length ≤ 1048576) (hE : EdgesA w w.heap.size (.slice ao E.length cap) E)
    (hB : BagsA w w.heap.size lv bs) (hbl : bs.length ≤ 1048576) (hbs : ∀ b ∈ bs, b.names.length ≤ 1048576 ∧ b.edges.length ≤ 1048576) :
    Calls Try.prog 18 #[.slice ao E.length cap, lv, .int .i64 width] w fun e w' => e = .returned (.bool (chkR E bs width)) ∧ Below w.heap.size w w' := by
  have hrd := read_any w ao cap E hl hle hE
  rw [readG_eq] at hrd
  obtain ⟨al, cl, rfl, hbc⟩ := hB
  obtain ⟨q, hq⟩ : ∃ q, chkR E bs width = q := ⟨_, rfl⟩
  rw [hq]
  cases hm : mayR nameB E with
  | false =>
    have hqf : Hid (q = false) := Lib.hid (by rw [← hq]; unfold chkR; rw [hm]; rfl)
    rw [hm] at hrd
    replace hrd := Lib.hid hrd
    clear hE hbc hq hm
    go_enter Try.func18, Try.ntmps18
    go_wp2_with fail
    refine hrd.out.mono ?_
    rintro e w1 ⟨hb, rfl⟩
    replace hb := Lib.hid hb
    go_wp2
    go_ret
    exact ⟨ret_bool hqf.out.symm, hb.out⟩
  | true =>
    rw [hm] at hrd
    simp only [if_true] at hrd
    have hq1 : chkP (varsR E) (setsR E) bs width = q := by rw [← hq]; unfold chkR; rw [hm]; rfl
    clear hq hm
    generalize varsR E = ns at *
    generalize setsR E = ms at *
    by_cases hwd : width < 1
    · have hqf : Hid (q = false) := Lib.hid (by rw [← hq1]; unfold chkP; rw [decide_eq_false (by omega)]; rfl)
      replace hrd := Lib.hid hrd
      clear hE hbc hq1
      go_enter Try.func18, Try.ntmps18
      go_wp2_with fail
      refine hrd.out.mono ?_
      rintro e w1 ⟨hb, gb, mb, rfl, hG, hgb, hmb⟩
      replace hb := Lib.hid hb
      clear hG
      go_wp2
      go_ret
      exact ⟨ret_bool hqf.out.symm, hb.out⟩
    · by_cases hb0 : bs = []
      · have hqf : Hid (q = false) := Lib.hid (by rw [← hq1]; unfold chkP; rw [hb0]; simp)
        have hl0 : ((bs.length : Int) == 0) = true := by rw [hb0]; rfl
        replace hrd := Lib.hid hrd
        replace hb0 := Lib.hid hb0
        clear hE hbc hq1
        go_enter Try.func18, Try.ntmps18
        go_wp2_with fail
        refine hrd.out.mono ?_
        rintro e w1 ⟨hb, gb, mb, rfl, hG, hgb, hmb⟩
        replace hb := Lib.hid hb
        clear hG
        go_wp2
        go_ret
        exact ⟨ret_bool hqf.out.symm, hb.out⟩
      · have hl0 : ((bs.length : Int) == 0) = false := beq_eq_false_iff_ne.2 (by have := List.length_pos_iff.2 hb0; omega)
        have hq2 : (match setsF ns ms width bs 0 [] with | none => false | some sets => ms.all (fun e => sets.any fun s => minus e s == 0) && (List.range ns.length).all fun v => decide (topsF bs sets v bs.length ≤ 1)) = q := by
          rw [← hq1]
          unfold chkP
          rw [decide_eq_true (by omega), decide_eq_true hb0]
          rfl
        clear hq1 hE
        obtain ⟨R1, hR1⟩ : ∃ R, setsF ns ms width bs 0 [] = R := ⟨_, rfl⟩
        have hR1b : Hid (setsF ns ms width (bs.drop 0) 0 [] = R1) := hR1
        rw [hR1] at hq2
        have hspec := fun sets (h : R1 = some sets) => setsF_spec bs 0 [] sets (hR1.trans h)
        obtain ⟨i1, hi1, hy0, hy1, hy2⟩ := info_parts infoSV
        replace hi1 := Lib.hid hi1
        replace hy0 := Lib.hid hy0
        replace hy1 := Lib.hid hy1
        replace hy2 := Lib.hid hy2
        replace hrd := Lib.hid hrd
        replace hb0 := Lib.hid hb0
        replace hq2 := Lib.hid hq2
        replace hbc := Lib.hid hbc
        replace hspec := Lib.hid hspec
        clear hR1
        go_enter Try.func18, Try.ntmps18
        go_wp2_with fail
        refine hrd.out.mono ?_
        rintro e w1 ⟨hb, gb, mb, rfl, hG, hgb, hmb⟩
        replace hb := Lib.hid hb
        replace hG := Lib.hid hG
        clear hrd
        have hOW : Hid (OW 57 w1 w1.heap.size (.slice none 0 0) (masksV []) w1) := Lib.hid (OW.start _ _ _)
        go_wp2
        go_loopw [9, 38] (fun sv i wr => ∃ (k : Nat) (sets : List Nat), k ≤ bs.length ∧ i = .int .i64 (k : Int) ∧ Hid (OW 57 w1 w1.heap.size sv (masksV sets) wr) ∧ Hid (setsF ns ms width (bs.drop k) k sets = R1) ∧ Hid (sets.length = k ∧ ∀ s ∈ sets, s < 65536)) (fun _ i _ => bs.length - (intOf i).toNat)
        case atStart => exact ⟨0, [], by omega, rfl, hOW, hR1b, Lib.hid ⟨rfl, fun s h => by cases h⟩⟩
        case round =>
          clear hOW hR1b
          obtain ⟨k, sets, hk, rfl, hOW, hst, hsl⟩ := hrel
          by_cases hlt : k < bs.length
          · have hki : (k : Int) < (bs.length : Int) := by omega
            have hk1 := Lib.hid (show k + 1 ≤ bs.length from hlt)
            obtain ⟨b, off, vv, ve, rfl, hbb, c0, c1, c2, hvs, hes⟩ := hbc.out k hlt
            have hwr := hb.out.trans (hOW.out.below.mono hb.out.size)
            have hstw := stay_of_below hwr
            replace c0 := hstw.cell c0
            replace c1 := hstw.cell c1
            replace c2 := hstw.cell c2
            obtain ⟨hbn, hbe⟩ := hbs _ (List.getElem_mem hlt)
            have hdr : bs.drop k = bs[k] :: bs.drop (k + 1) := List.drop_eq_getElem_cons hlt
            rw [hdr, setsF] at hst
            have hvs1 := (hvs.stay hstw).mono (B' := wr.heap.size) hwr.size
            have hes1 := (hes.stay hstw).mono (B' := wr.heap.size) hwr.size
            generalize bs[k] = bd at *
            obtain ⟨av, cv, rfl, -⟩ := hvs.form
            obtain ⟨ae, ce, rfl, -, -⟩ := hes.form
            rw [numsV_length] at hes1 c1
            have hG1 := hG.out.below hOW.out.below
            have hset := fun V (h : Below wr.heap.size wr V) => set_any V gb mb ns ms (hG1.below h) (.slice av bd.names.length cv) (.slice ae bd.edges.length ce) bd.parent bd.names bd.edges ((hvs1.stay (stay_of_below h)).mono h.size) ((hes1.stay (stay_of_below h)).mono h.size) hbn hbe
            obtain ⟨asx, csx, rfl⟩ := hOW.out.form
            rw [masksV_length] at hOW ⊢
            generalize bd.parent = p at *
            generalize hnl : bd.names.length = nl at *
            generalize hne : bd.edges.length = el at *
            generalize setP ns ms bd.names bd.edges = RS at *
            replace hset := Lib.hid hset
            clear hvs hes hvs1 hes1 hG1 hstw hdr hlt
            have hbelow := Lib.hid hwr
            have hbad : Hid ((parOK k p && decide ((el : Int) ≤ width)) = false → q = false) := Lib.hid fun h => by
              have h1 := hst.out
              rw [h] at h1
              simp only [Bool.false_eq_true, if_false] at h1
              rw [← hq2.out, ← h1]
            have hbad2 : Hid (RS = none → q = false) := Lib.hid fun h => by
              have h1 := hst.out
              rw [h] at h1
              have h2 : R1 = none := by rw [← h1]; split <;> rfl
              rw [← hq2.out, h2]
            by_cases hw1 : width < (el : Int)
            · have hqf := Lib.hid (hbad.out (by rw [decide_eq_false (by omega)]; simp))
              by_cases hk0 : k = 0
              · have hk0i : ((k : Int) == 0) = true := by rw [hk0]; rfl
                have hk0j : ¬ (0 : Int) < (k : Int) := by omega
                replace hk0 := Lib.hid hk0
                by_cases hp : p = -1
                · have hpi : (p != -1) = false := by rw [hp]; rfl
                  replace hp := Lib.hid hp
                  clear hset hst hbad hbad2 hOW
                  go_wp2
                  go_ret
                  exact ⟨ret_bool hqf.out.symm, (hbelow.out.alloc hbelow.out.size _)⟩
                · have hpi : (p != -1) = true := by simpa using hp
                  clear hset hst hbad hbad2 hOW
                  go_wp2
                  go_ret
                  exact ⟨ret_bool hqf.out.symm, (hbelow.out.alloc hbelow.out.size _)⟩
              · have hk0i : ((k : Int) == 0) = false := beq_eq_false_iff_ne.2 (by omega)
                have hk0j : (0 : Int) < (k : Int) := by omega
                by_cases hp1 : p < 0
                · skip
                  clear hset hst hbad hbad2 hOW
                  go_wp2
                  go_ret
                  exact ⟨ret_bool hqf.out.symm, (hbelow.out.alloc hbelow.out.size _)⟩
                · by_cases hp2 : (k : Int) ≤ p
                  · skip
                    clear hset hst hbad hbad2 hOW
                    go_wp2
                    go_ret
                    exact ⟨ret_bool hqf.out.symm, (hbelow.out.alloc hbelow.out.size _)⟩
                  · skip
                    clear hset hst hbad hbad2 hOW
                    go_wp2
                    go_ret
                    exact ⟨ret_bool hqf.out.symm, (hbelow.out.alloc hbelow.out.size _)⟩
            · have hw1n : ¬ width < (el : Int) := hw1
              have hwel : decide ((el : Int) ≤ width) = true := decide_eq_true (by omega)
              by_cases hk0 : k = 0
              · have hk0i : ((k : Int) == 0) = true := by rw [hk0]; rfl
                have hk0j : ¬ (0 : Int) < (k : Int) := by omega
                by_cases hp : p = -1
                · have hpi : (p != -1) = false := by rw [hp]; rfl
                  have hpar : parOK k p = true := by unfold parOK; rw [if_pos hk0, decide_eq_true hp]
                  replace hp := Lib.hid hp
                  replace hk0 := Lib.hid hk0
                  have hst2 : Hid (∀ s, RS = some s → setsF ns ms width (bs.drop (k + 1)) (k + 1) (sets ++ [s]) = R1) := Lib.hid fun s h => by
                    have h1 := hst.out
                    rw [hpar, hwel, h] at h1
                    simpa using h1
                  clear hst hbad hpar hwel
                  go_wp2_with fail
                  refine (hset.out _ ((Below.refl _ _).alloc (Nat.le_refl _) _)).mono ?_
                  rintro e w3 ⟨hb3, x, rfl, hx⟩
                  have hb4 : Hid (Below wr.heap.size wr w3) := Lib.hid (((Below.refl _ _).alloc (Nat.le_refl _) _).trans (hb3.mono (by rw [World.size_alloc]; omega)))
                  clear hb3 hset
                  cases RS with
                  | none =>
                    have hqf := Lib.hid (hbad2.out rfl)
                    clear hx hst2 hOW hbad2
                    go_wp2
                    go_ret
                    exact ⟨ret_bool hqf.out.symm, hbelow.out.trans (hb4.out.mono hbelow.out.size)⟩
                  | some s =>
                    obtain ⟨rfl, hs⟩ := hx s rfl
                    have hst3 := Lib.hid (hst2.out _ rfl)
                    have hOW3 := hOW.out.on hOW.out.below.size hb4.out
                    have hown := hOW3.own
                    have hms3 : sets.length ≤ 1048576 := by have := hsl.out.1; omega
                    have hsz3 : w1.heap.size ≤ w3.heap.size := hOW3.below.size
                    have hsl2 : Hid ((sets ++ [x]).length = k + 1 ∧ ∀ s ∈ sets ++ [x], s < 65536) := Lib.hid ⟨by rw [List.length_append, hsl.out.1]; rfl, fun e he => by
                      rcases List.mem_append.1 he with he | he
                      · exact hsl.out.2 e he
                      · rw [List.mem_singleton] at he; rw [he]; exact hs⟩
                    have hmv : masksV sets ++ [.int .u16 (x : Int)] = masksV (sets ++ [x]) := by simp [masksV]
                    replace hOW3 := Lib.hid hOW3
                    clear hx hst2 hbad2 hOW hsl
                    go_wp2_with (at_builtin; refine wpList_append_own _ rfl _ _ 59 rfl w1.heap.size 57 i1 (.int .u16 0) 1 2 Try.underlying59 hi1.out hy0.out hy1.out hy2.out rfl (by decide) _ (masksV sets).length (masksV sets) rfl (hown.alloc _) _ 1 _ [.int .u16 (x : Int)] rfl rfl ?e1 ?e2 ?e3 ?e4 ?e5 ?e6)
                    case e1 => exact news_one _ _ _
                    case e2 => simp [Value.oneCell']
                    case e3 => simp only [maxLen, masksV_length]; omega
                    case e4 => simp only [masksV_length]; omega
                    case e5 => simp; omega
                    case e6 =>
                      intro v' w5 h1 h2 _
                      have hOW5 := hOW3.out.step (v' := v') (w' := w5) hsz3 (.cells #[.int .u16 (x : Int)] 57) (.int .u16 (x : Int)) (by rw [masksV_length, hmv]; exact h1) h2
                      rw [hmv] at hOW5
                      obtain ⟨a5, c5, rfl⟩ := hOW5.form
                      rw [masksV_length] at hOW5 ⊢
                      replace hOW5 := Lib.hid hOW5
                      clear hown h1 h2 hOW3
                      go_wp2
                      go_roundw
                      case rel => exact ⟨k + 1, _, hk1.out, by go_num, hOW5, hst3, hsl2⟩
                      case measure => have := hk1.out; simp [intOf]; omega
                · have hpi : (p != -1) = true := by simpa using hp
                  have hqf : q = false := hbad.out (by unfold parOK; rw [if_pos hk0, decide_eq_false hp]; rfl)
                  replace hqf := Lib.hid hqf
                  replace hk0 := Lib.hid hk0
                  clear hset hst hbad hbad2 hOW
                  go_wp2
                  go_ret
                  exact ⟨ret_bool hqf.out.symm, (hbelow.out.alloc hbelow.out.size _)⟩
              · have hk0i : ((k : Int) == 0) = false := beq_eq_false_iff_ne.2 (by omega)
                have hk0j : (0 : Int) < (k : Int) := by omega
                by_cases hp1 : p < 0
                · have hqf : q = false := hbad.out (by unfold parOK; rw [if_neg hk0, decide_eq_false (by omega)]; rfl)
                  replace hqf := Lib.hid hqf
                  clear hset hst hbad hbad2 hOW
                  go_wp2
                  go_ret
                  exact ⟨ret_bool hqf.out.symm, (hbelow.out.alloc hbelow.out.size _)⟩
                · by_cases hp2 : (k : Int) ≤ p
                  · have hqf : q = false := hbad.out (by unfold parOK; rw [if_neg hk0, decide_eq_false (by omega)]; rfl)
                    replace hqf := Lib.hid hqf
                    clear hset hst hbad hbad2 hOW
                    go_wp2
                    go_ret
                    exact ⟨ret_bool hqf.out.symm, (hbelow.out.alloc hbelow.out.size _)⟩
                  · have hpar : parOK k p = true := by unfold parOK; rw [if_neg hk0, decide_eq_true (by omega)]
                    have hst2 : Hid (∀ s, RS = some s → setsF ns ms width (bs.drop (k + 1)) (k + 1) (sets ++ [s]) = R1) := Lib.hid fun s h => by
                      have h1 := hst.out
                      rw [hpar, hwel, h] at h1
                      simpa using h1
                    clear hst hbad hpar hwel
                    go_wp2_with fail
                    refine (hset.out _ ((Below.refl _ _).alloc (Nat.le_refl _) _)).mono ?_
                    rintro e w3 ⟨hb3, x, rfl, hx⟩
                    have hb4 : Hid (Below wr.heap.size wr w3) := Lib.hid (((Below.refl _ _).alloc (Nat.le_refl _) _).trans (hb3.mono (by rw [World.size_alloc]; omega)))
                    clear hb3 hset
                    cases RS with
                    | none =>
                      have hqf := Lib.hid (hbad2.out rfl)
                      clear hx hst2 hOW hbad2
                      go_wp2
                      go_ret
                      exact ⟨ret_bool hqf.out.symm, hbelow.out.trans (hb4.out.mono hbelow.out.size)⟩
                    | some s =>
                      obtain ⟨rfl, hs⟩ := hx s rfl
                      have hst3 := Lib.hid (hst2.out _ rfl)
                      have hOW3 := hOW.out.on hOW.out.below.size hb4.out
                      have hown := hOW3.own
                      have hms3 : sets.length ≤ 1048576 := by have := hsl.out.1; omega
                      have hsz3 : w1.heap.size ≤ w3.heap.size := hOW3.below.size
                      have hsl2 : Hid ((sets ++ [x]).length = k + 1 ∧ ∀ s ∈ sets ++ [x], s < 65536) := Lib.hid ⟨by rw [List.length_append, hsl.out.1]; rfl, fun e he => by
                        rcases List.mem_append.1 he with he | he
                        · exact hsl.out.2 e he
                        · rw [List.mem_singleton] at he; rw [he]; exact hs⟩
                      have hmv : masksV sets ++ [.int .u16 (x : Int)] = masksV (sets ++ [x]) := by simp [masksV]
                      replace hOW3 := Lib.hid hOW3
                      clear hx hst2 hbad2 hOW hsl
                      go_wp2_with (at_builtin; refine wpList_append_own _ rfl _ _ 59 rfl w1.heap.size 57 i1 (.int .u16 0) 1 2 Try.underlying59 hi1.out hy0.out hy1.out hy2.out rfl (by decide) _ (masksV sets).length (masksV sets) rfl (hown.alloc _) _ 1 _ [.int .u16 (x : Int)] rfl rfl ?f1 ?f2 ?f3 ?f4 ?f5 ?f6)
                      case f1 => exact news_one _ _ _
                      case f2 => simp [Value.oneCell']
                      case f3 => simp only [maxLen, masksV_length]; omega
                      case f4 => simp only [masksV_length]; omega
                      case f5 => simp; omega
                      case f6 =>
                        intro v' w5 h1 h2 _
                        have hOW5 := hOW3.out.step (v' := v') (w' := w5) hsz3 (.cells #[.int .u16 (x : Int)] 57) (.int .u16 (x : Int)) (by rw [masksV_length, hmv]; exact h1) h2
                        rw [hmv] at hOW5
                        obtain ⟨a5, c5, rfl⟩ := hOW5.form
                        rw [masksV_length] at hOW5 ⊢
                        replace hOW5 := Lib.hid hOW5
                        clear hown h1 h2 hOW3
                        go_wp2
                        go_roundw
                        case rel => exact ⟨k + 1, _, hk1.out, by go_num, hOW5, hst3, hsl2⟩
                        case measure => have := hk1.out; simp [intOf]; omega
          · have hki : ¬ (k : Int) < (bs.length : Int) := by omega
            obtain rfl : k = bs.length := by omega
            have hR1s : R1 = some sets := by rw [← hst.out, List.drop_length]; rfl
            have hq3 := hq2.out
            rw [hR1s] at hq3
            have hsp := (hspec.out sets hR1s).2
            have hsll := hsl.out.1
            have hs16 := Lib.hid hsl.out.2
            obtain ⟨asx, csx, rfl⟩ := hOW.out.form
            rw [masksV_length]
            have hbr := Lib.hid (hb.out.trans (hOW.out.below.mono hb.out.size))
            have hGr := Lib.hid (hG.out.below hOW.out.below)
            have hrow := Lib.hid hOW.out.row
            rw [masksV_length] at hrow
            clear hst hsl hOW hspec hq2 hR1s hlt hk
            obtain ⟨an, cn, ae2, ce2, hgb2, hnc, hmc⟩ := hGr.out.cells
            have x0 := hgb2.cell 0 rfl
            have x1 := hgb2.cell 1 rfl
            have hml8 := hGr.out.hlen
            have hnl8 := hGr.out.hns
            replace hmc := Lib.hid hmc
            replace hsp := Lib.hid hsp
            replace hq3 := Lib.hid hq3
            have hsl20 : sets.length ≤ 1048576 := by omega
            clear hgb2 hnc
            generalize wr = w2 at *
            go_wp2
            go_loopw [90] (fun i wx => ∃ k : Nat, k ≤ ms.length ∧ i = .int .i64 (k : Int) ∧ Hid (Below w2.heap.size w2 wx) ∧ Hid (∀ j (h : j < ms.length), j < k → (sets.any fun s => minus ms[j] s == 0) = true)) (fun i _ => ms.length - (intOf i).toNat)
            case atStart => exact ⟨0, by omega, rfl, Lib.hid (Below.refl _ _), Lib.hid (fun j h h' => by omega)⟩
            case round =>
              obtain ⟨k, hk, rfl, hbx, hal⟩ := hrel
              by_cases hlt : k < ms.length
              · have hki : (k : Int) < (ms.length : Int) := by omega
                have hk1 := Lib.hid (show k + 1 ≤ ms.length from hlt)
                obtain ⟨b2, off2, rfl, -, hc2⟩ := hmc.out k hlt
                replace hc2 := (stay_of_below hbx.out).cell hc2
                have x1 := (stay_of_below hbx.out).cell x1
                have hme : ms[k] < 65536 := hGr.out.hE _ (List.getElem_mem hlt)
                have hrx := Lib.hid (hrow.out.stay (stay_of_below hbx.out))
                have hno : Hid ((sets.any fun s => minus ms[k] s == 0) = false → q = false) := Lib.hid fun h => by
                  rw [← hq3.out]
                  have : (ms.all fun e => sets.any fun s => minus e s == 0) = false := by
                    rw [List.all_eq_false]
                    exact ⟨_, List.getElem_mem hlt, fun h2 => Bool.noConfusion (h.symm.trans h2)⟩
                  simp only [this, Bool.false_and]
                have hal2 : Hid ((sets.any fun s => minus ms[k] s == 0) = true → ∀ j (h : j < ms.length), j < k + 1 → (sets.any fun s => minus ms[j] s == 0) = true) := Lib.hid fun h j hj hjk => by
                  by_cases hjk2 : j = k
                  · subst hjk2; exact h
                  · exact hal.out j hj (by omega)
                have hcon := Lib.hid (fun V eb (hv : Below wr.heap.size wr V) (hc : V.cell? ⟨eb, 0, none⟩ = some (.int .u16 ((ms[k] : Nat) : Int))) => con_any V eb ms[k] hme hc asx csx sets hs16.out hsl20 ((hrx.out.stay (stay_of_below hv)).mono (Nat.le_trans hbx.out.size hv.size)))
                generalize ms[k] = e at *
                generalize (sets.any fun s => minus e s == 0) = r at *
                clear hlt hal
                go_wp2_with fail
                have hva : Hid (Below wr.heap.size wr (wr.alloc (.cells #[.int .u16 (e : Int)] 57))) := Lib.hid ((Below.refl _ _).alloc (Nat.le_refl _) _)
                have hcc : (wr.alloc (.cells #[.int .u16 (e : Int)] 57)).cell? ⟨wr.heap.size, 0, none⟩ = some (.int .u16 (e : Int)) := (Blk.new wr #[.int .u16 (e : Int)] 57).cell 0 rfl
                have hco1 := hcon.out _ wr.heap.size hva.out hcc
                rw [hsll] at hco1
                refine hco1.mono ?_
                rintro e1 w4 ⟨rfl, rfl⟩
                cases r with
                | true =>
                  have hal3 := Lib.hid (hal2.out rfl)
                  have hbx2 := Lib.hid (hbx.out.trans (hva.out.mono hbx.out.size))
                  clear hco1 hcon hno hal2 hbx
                  go_wp2
                  go_roundw
                  case rel => exact ⟨k + 1, hk1.out, by go_num, hbx2, hal3⟩
                  case measure => have := hk1.out; simp [intOf]; omega
                | false =>
                  have hqf := Lib.hid (hno.out rfl)
                  have hbx2 := Lib.hid (hbx.out.trans (hva.out.mono hbx.out.size))
                  clear hco1 hcon hno hal2
                  go_wp2
                  go_ret
                  exact ⟨ret_bool hqf.out.symm, hbr.out.trans (hbx2.out.mono hbr.out.size)⟩
              · have hki : ¬ (k : Int) < (ms.length : Int) := by omega
                obtain rfl : k = ms.length := by omega
                have hall : (ms.all fun e => sets.any fun s => minus e s == 0) = true := by
                  rw [List.all_eq_true]
                  intro e he
                  obtain ⟨j, hj, rfl⟩ := List.getElem_of_mem he
                  exact hal.out j hj hj
                have hq4 : Hid ((List.range ns.length).all (fun v => decide (topsF bs sets v bs.length ≤ 1)) = q) := by
                  have h := hq3.out
                  simp only [hall, Bool.true_and] at h
                  exact h
                have hb3 := Lib.hid (hbr.out.trans (hbx.out.mono hbr.out.size))
                have hst3 := stay_of_below hb3.out
                have hs3 := stay_of_below hbx.out
                have hr3 := hrow.out.stay hs3
                have hbc3 : Hid (∀ i (hi : i < bs.length), ∃ b off, al = some ⟨b, off, none⟩ ∧ wr.cell? ⟨b, off + i * 3 + 2, none⟩ = some (.int .i64 bs[i].parent)) := Lib.hid fun i hi => by
                  obtain ⟨b, off, vv, ve, h1, -, -, -, h2, -, -⟩ := hbc.out i hi
                  exact ⟨b, off, h1, hst3.cell h2⟩
                have hset3 : Hid (∀ i, i < bs.length → sets.getD i 0 < 65536 ∧ ∃ b off, asx = some ⟨b, off, none⟩ ∧ wr.cell? ⟨b, off + i, none⟩ = some (.int .u16 ((sets.getD i 0 : Nat) : Int))) := Lib.hid fun i hi => by
                  obtain ⟨a2, c2, hv, -, hcell⟩ := hr3.form
                  rw [masksV_length] at hv
                  obtain ⟨rfl, rfl⟩ : asx = a2 ∧ csx = c2 := by injection hv with h1 h2 h3; exact ⟨h1, h3⟩
                  have hi2 : i < sets.length := by omega
                  obtain ⟨b, off, h1, -, h2⟩ := hcell i (by simpa using hi2)
                  rw [List.getD_eq_getElem?_getD, List.getElem?_eq_getElem hi2]
                  exact ⟨hs16.out _ (List.getElem_mem hi2), b, off, h1, by rw [h2]; simp [masksV]⟩
                have hpar3 : Hid (∀ i (hi : i < bs.length), parOK i bs[i].parent = true) := Lib.hid fun i hi => by
                  have := hsp.out i hi
                  rwa [Nat.zero_add] at this
                replace x0 := hs3.cell x0
                clear hal hall hq3 hbr hbx hst3 hs3 hr3 hrow hbc hsp hmc hGr hG x1 hlt
                generalize wr = w3 at *
                go_wp2
                go_loop [104] (fun v => ∃ n : Nat, n ≤ ns.length ∧ v = .int .i64 (n : Int) ∧ Hid (∀ j, j < n → topsF bs sets j bs.length ≤ 1)) (fun v => ns.length - (intOf v).toNat)
                case atStart => exact ⟨0, by omega, rfl, Lib.hid (fun j h => by omega)⟩
                case round =>
                  obtain ⟨n, hn, rfl, hps⟩ := hrel
                  by_cases hlt : n < ns.length
                  · have hki : (n : Int) < (ns.length : Int) := by omega
                    have hn1 := Lib.hid (show n + 1 ≤ ns.length from hlt)
                    have hqno : Hid (1 < topsF bs sets n bs.length → q = false) := Lib.hid fun h => by
                      rw [← hq4.out, List.all_eq_false]
                      exact ⟨n, List.mem_range.2 hlt, by simp; omega⟩
                    have hps2 : Hid (topsF bs sets n bs.length ≤ 1 → ∀ j, j < n + 1 → topsF bs sets j bs.length ≤ 1) := Lib.hid fun h j hj => by
                      by_cases hjn : j = n
                      · rw [hjn]; exact h
                      · exact hps.out j (by omega)
                    clear hps
                    go_wp2
                    go_loop [17, 109] (fun t i => ∃ k c : Nat, k ≤ bs.length ∧ i = .int .i64 (k : Int) ∧ t = .int .i64 (c : Int) ∧ c ≤ k ∧ Hid (topsF bs sets n k = c)) (fun _ i => bs.length - (intOf i).toNat)
                    case atStart => exact ⟨0, 0, by omega, rfl, rfl, by omega, Lib.hid rfl⟩
                    case round =>
                      obtain ⟨k, c, hk, rfl, rfl, hck, htc⟩ := hrel
                      by_cases hlk : k < bs.length
                      · have hki2 : (k : Int) < (bs.length : Int) := by omega
                        have hk1 := Lib.hid (show k + 1 ≤ bs.length from hlk)
                        obtain ⟨hs1, b, off, rfl, hc1⟩ := hset3.out k hlk
                        have hsucc := topsF_succ bs sets n k
                        rw [htc.out] at hsucc
                        unfold topAt at hsucc
                        have hp1 := hpar3.out k hlk
                        have hh1 := Lib.hid (has_v (sets.getD k 0) n w3 hs1 (by omega))
                        generalize sets.getD k 0 = s at *
                        cases hbt : s.testBit n with
                        | false =>
                          rw [hbt] at hh1 hsucc
                          have hs2 : Hid (topsF bs sets n (k + 1) = c) := Lib.hid (by simpa using hsucc)
                          clear hsucc htc hp1
                          replace hbt := Lib.hid hbt
                          go_wp2_with fail
                          refine hh1.out.mono ?_
                          rintro e1 w4 ⟨rfl, rfl⟩
                          go_wp2
                          go_round
                          case rel => exact ⟨k + 1, c, hk1.out, by go_num, by go_num, by omega, hs2⟩
                          case measure => have := hk1.out; simp [intOf]; omega
                        | true =>
                          rw [hbt] at hh1 hsucc
                          replace hbt := Lib.hid hbt
                          by_cases hk0 : k = 0
                          · have hk0i : ((k : Int) == 0) = true := by rw [hk0]; rfl
                            have hs2 : Hid (topsF bs sets n (k + 1) = c + 1) := Lib.hid (by rw [hsucc, hk0]; rfl)
                            clear hsucc htc hp1
                            replace hk0 := Lib.hid hk0
                            go_wp2_with fail
                            refine hh1.out.mono ?_
                            rintro e1 w4 ⟨rfl, rfl⟩
                            go_wp2
                            go_round
                            case rel => exact ⟨k + 1, c + 1, hk1.out, by go_num, by go_num, by omega, hs2⟩
                            case measure => have := hk1.out; simp [intOf]; omega
                          · have hk0i : ((k : Int) == 0) = false := beq_eq_false_iff_ne.2 (by omega)
                            obtain ⟨b3, off3, rfl, hc3⟩ := hbc3.out k hlk
                            have hpm : (bs.map BagD.parent).getD k 0 = (bs[k]'hlk).parent := by
                              rw [List.getD_eq_getElem?_getD, List.getElem?_map, List.getElem?_eq_getElem hlk]; rfl
                            unfold parOK at hp1
                            rw [if_neg hk0] at hp1
                            have hp2 := of_decide_eq_true hp1
                            obtain ⟨m, hm⟩ := Int.eq_ofNat_of_zero_le hp2.1
                            rw [hpm] at hsucc
                            rw [hm] at hc3 hsucc
                            rw [Int.toNat_natCast] at hsucc
                            have hmk : m < bs.length := by omega
                            have hmk2 : m < k := by omega
                            obtain ⟨hs4, b4, off4, e4, hc4⟩ := hset3.out m hmk
                            cases e4
                            have hh4 := Lib.hid (has_v (sets.getD m 0) n w3 hs4 (by omega))
                            rw [decide_eq_false hk0] at hsucc
                            generalize sets.getD m 0 = s4 at *
                            clear htc hp1 hp2 hm hpm
                            replace hk0 := Lib.hid hk0
                            cases hbt4 : s4.testBit n with
                            | false =>
                              rw [hbt4] at hh4 hsucc
                              replace hbt4 := Lib.hid hbt4
                              have hs2 : Hid (topsF bs sets n (k + 1) = c + 1) := Lib.hid (by simpa using hsucc)
                              clear hsucc
                              go_wp2_with fail
                              refine hh1.out.mono ?_
                              rintro e1 w4 ⟨rfl, rfl⟩
                              go_wp2_with fail
                              refine hh4.out.mono ?_
                              rintro e1 w5 ⟨rfl, rfl⟩
                              go_wp2
                              go_round
                              case rel => exact ⟨k + 1, c + 1, hk1.out, by go_num, by go_num, by omega, hs2⟩
                              case measure => have := hk1.out; simp [intOf]; omega
                            | true =>
                              rw [hbt4] at hh4 hsucc
                              replace hbt4 := Lib.hid hbt4
                              have hs2 : Hid (topsF bs sets n (k + 1) = c) := Lib.hid (by simpa using hsucc)
                              clear hsucc
                              go_wp2_with fail
                              refine hh1.out.mono ?_
                              rintro e1 w4 ⟨rfl, rfl⟩
                              go_wp2_with fail
                              refine hh4.out.mono ?_
                              rintro e1 w5 ⟨rfl, rfl⟩
                              go_wp2
                              go_round
                              case rel => exact ⟨k + 1, c, hk1.out, by go_num, by go_num, by omega, hs2⟩
                              case measure => have := hk1.out; simp [intOf]; omega
                      · have hki2 : ¬ (k : Int) < (bs.length : Int) := by omega
                        obtain rfl : k = bs.length := by omega
                        have hqno2 := hqno.out
                        have hps3 := hps2.out
                        rw [htc.out] at hqno2 hps3
                        clear hqno hps2 htc
                        by_cases hc2 : 1 < c
                        · have hc2i : (1 : Int) < (c : Int) := by omega
                          have hqf := Lib.hid (hqno2 hc2)
                          clear hqno2 hps3
                          go_wp2
                          go_ret
                          exact ⟨ret_bool hqf.out.symm, hb3.out⟩
                        · have hc2i : ¬ (1 : Int) < (c : Int) := by omega
                          have hps4 := Lib.hid (hps3 (by omega))
                          clear hqno2 hps3
                          go_wp2
                          go_round
                          case rel => exact ⟨n + 1, hn1.out, by go_num, hps4⟩
                          case measure => have := hn1.out; simp [intOf]; omega
                  · have hki : ¬ (n : Int) < (ns.length : Int) := by omega
                    obtain rfl : n = ns.length := by omega
                    have hqt : Hid (q = true) := Lib.hid (by
                      rw [← hq4.out, List.all_eq_true]
                      exact fun v hv => decide_eq_true (hps.out v (List.mem_range.1 hv)))
                    clear hps hq4
                    go_wp2
                    go_ret
                    exact ⟨ret_bool hqt.out.symm, hb3.out⟩
end Go.Proofs.Ytnocncmjdhlmkaa.hyp
