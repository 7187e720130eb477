/- The contract of Decompose. -/
import Derived.Test.YtnocncmjdhlmkaaHDec2
namespace Go.Proofs.Ytnocncmjdhlmkaa.hyp
open Go.ChangeShapes Go.WideShapes Go.ChangeAt Go.RowKit kit
set_option linter.unusedVariables false
set_option linter.unusedSimpArgs false
theorem namesOf_length (ns : List ByteArray) (L : List Nat) : (namesOf ns L).length = L.length := by unfold namesOf; rw [List.length_map]
theorem natI_length (L : List Nat) : (natI L).length = L.length := by unfold natI; rw [List.length_map]
theorem numsV_natI (L : List Nat) : numsV (natI L) = natsV L := by unfold numsV natI natsV; rw [List.map_map]; rfl
/-- The parent so far. -/
def parP (ms : List Nat) (turn all i : Nat) (L : List Nat) (k : Nat) : Int := if i = 0 then -1 else ((lastAt ms turn all i (L.take k) 0 : Nat) : Int)
theorem below_maps {w0 w w' : World} {m : List Nat} (hb : Below w0.heap.size w0 w) (hk : Keep m w w') (hm : ∀ x ∈ m, w0.heap.size ≤ x) : Below w0.heap.size w0 w' := hb.trans (hk.under w0.heap.size hb.size hm)
set_option maxRecDepth 100000 in
set_option maxHeartbeats 8000000 in
theorem decompose_any (w : World) (ao : Option Addr) (cap : Nat) (E : List (List ByteArray)) (width seed : Int) (hl : E.length ≤ 1048576) (hle : ∀ e ∈ E, e.length ≤ 1048576) (hE : EdgesA w w.heap.size (.slice ao E.length cap) E) :
    Calls Try.prog 20 #[.slice ao E.length cap, .int .i64 width, .int .i64 seed] w fun e w' => DecOut w E width seed e w' := by
  have hrd := read_any w ao cap E hl hle hE
  obtain ⟨i0, hi, hz0, hz1, hz2⟩ := info_parts infoBag
  replace hi := Lib.hid hi
  replace hz0 := Lib.hid hz0
  replace hz1 := Lib.hid hz1
  replace hz2 := Lib.hid hz2
  rw [readG_eq] at hrd
  obtain ⟨q, hq⟩ : ∃ q : Bool, decide (mayR nameB E = true ∧ 1 ≤ width) = q := ⟨_, rfl⟩
  cases hm : mayR nameB E with
  | false =>
    have hpost : Hid (∀ w', Below w.heap.size w w' → DecOut w E width seed (.returned (.tuple #[.slice none 0 0, .int .i64 1])) w') := Lib.hid fun w' hb => ⟨hb, .inl ⟨fun h => (by rw [hm] at h; cases h.1), rfl⟩⟩
    rw [hm] at hrd
    replace hrd := Lib.hid hrd
    clear hE hq hm
    go_enter Try.func20, Try.ntmps20
    go_wp2_with fail
    refine hrd.out.mono ?_
    rintro e w1 ⟨hb, rfl⟩
    have hp := Lib.hid (hpost.out w1 hb)
    clear hb hrd
    go_wp2
    go_ret2
    exact hp.out
  | true =>
    rw [hm] at hrd
    simp only [if_true] at hrd
    by_cases hwd : width < 1
    · have hpost : Hid (∀ w', Below w.heap.size w w' → DecOut w E width seed (.returned (.tuple #[.slice none 0 0, .int .i64 1])) w') := Lib.hid fun w' hb => ⟨hb, .inl ⟨fun h => (by omega), rfl⟩⟩
      replace hrd := Lib.hid hrd
      clear hE hq hm
      go_enter Try.func20, Try.ntmps20
      go_wp2_with fail
      refine hrd.out.mono ?_
      rintro e w1 ⟨hb, gb, mb, rfl, hG, hgb, hmb⟩
      have hp := Lib.hid (hpost.out w1 hb)
      clear hb hrd hG
      go_wp2
      go_ret2
      exact hp.out
    · have hwd1 : ¬ width < 1 := hwd
      have hgood := good_of hm
      have hal : allR E = 2 ^ (varsR E).length - 1 := rfl
      have h12 := (may_parts hm).2.2
      have hpost : Hid (∀ e w', Below w.heap.size w w' → ((width < ((widN (setsR E) (turnOf seed) (allR E) : Nat) : Int) ∧ e = .returned (.tuple #[.slice none 0 0, .int .i64 31])) ∨ (((widN (setsR E) (turnOf seed) (allR E) : Nat) : Int) ≤ width ∧ ∃ v bs, e = .returned (.tuple #[v, .int .i64 0]) ∧ BagsO w' w.heap.size v bs ∧
      ((allR E = 0 ∧ bs = [⟨[], [], -1⟩]) ∨ (allR E ≠ 0 ∧ ∃ M, outS (setsR E) (turnOf seed) (allR E) M = 0 ∧ (∀ i, i < M → outS (setsR E) (turnOf seed) (allR E) i ≠ 0) ∧ bs = bagsR (varsR E) (setsR E) (turnOf seed) (allR E) M)))) → DecOut w E width seed e w') := Lib.hid fun e w' hb h =>
        ⟨hb, h.elim (fun h => .inr (.inl ⟨⟨hm, by omega⟩, h.1, h.2⟩)) (fun h => .inr (.inr ⟨⟨hm, by omega⟩, h.1, h.2⟩))⟩
      have ht12 := turn_lt seed
      have hwy := fun V gb mb (h : GM V gb mb (varsR E) (setsR E)) => ways_any V gb mb _ _ h seed
      have h16 := hgood.hall
      replace hrd := Lib.hid hrd
      generalize turnOf seed = turn at *
      have hla := fun wb gb mb kb lb V (h : WM V wb gb mb kb lb turn (varsR E) (setsR E) (fun _ => none) (fun _ => none)) => least_any wb gb mb kb lb turn _ _ ht12 (allR E) (allR E) (Nat.le_refl _) h16 V _ _ h (fun x v _ hv => by cases hv)
      have hall := fun V gb mb (h : GM V gb mb (varsR E) (setsR E)) => all_any V gb mb _ _ h
      rw [← hal] at hall
      have hsub : Sub (allR E) (allR E) := Sub.refl _
      have hbits : ∀ i, (allR E).testBit i = true → i < (varsR E).length := fun i hi => by
        unfold allR at hi
        rw [full_bit, decide_eq_true_eq] at hi
        exact hi
      generalize hns : varsR E = ns at *
      generalize hms : setsR E = ms at *
      generalize allR E = all at *
      replace hwy := Lib.hid hwy
      replace hla := Lib.hid hla
      replace hall := Lib.hid hall
      clear hE hq hm hal hns hms
      go_enter Try.func20, Try.ntmps20
      go_wp2_with fail
      refine hrd.out.mono ?_
      rintro e w1 ⟨hb, gb, mb, rfl, hG, hgb, hmb⟩
      have hwy1 := Lib.hid (hwy.out w1 gb mb hG)
      replace hb := Lib.hid hb
      clear hrd hG hwy
      go_wp2_with fail
      refine hwy1.out.mono ?_
      rintro e w2 ⟨wb, kb, lb, rfl, hb2, hW, hwb, hkb, hlb⟩
      have hb2 := Lib.hid (hb.out.trans (hb2.mono hb.out.size))
      have hs1 := hb.out.size
      have hal2 := Lib.hid (hall.out w2 gb mb hW.g)
      have hla2 := Lib.hid (hla.out wb gb mb kb lb w2 hW)
      clear hwy1 hW hla hb
      go_wp2_with fail
      refine hal2.out.mono ?_
      rintro e w3 ⟨rfl, rfl⟩
      go_wp2_with fail
      refine hla2.out.mono ?_
      rintro e w4 ⟨rfl, fw, fl, hA, hsome⟩
      have hb4 := Lib.hid (below_maps hb2.out hA.keep (fun x hx => by
        simp only [List.mem_cons, List.not_mem_nil, or_false] at hx
        rcases hx with rfl | rfl | rfl <;> omega))
      have hwm := Lib.hid hA.wm
      have hwi := Lib.hid hA.wi
      replace hsome := Lib.hid hsome
      clear hA hla2 hal2 hb2
      generalize hwn : widN ms turn all = wn at *
      replace hwn := Lib.hid hwn
      by_cases hgt : width < (wn : Int)
      · have hp := Lib.hid (hpost.out (.returned (.tuple #[.slice none 0 0, .int .i64 31])) w4 hb4.out (.inl ⟨hgt, rfl⟩))
        clear hpost hwm hwi hsome hb4
        go_wp2
        go_ret2
        exact hp.out
      · have hal4 := Lib.hid (hall.out w4 gb mb hwm.out.g)
        by_cases h0 : all = 0
        · have h0i : ((all : Int) == 0) = true := by rw [h0]; rfl
          replace h0 := Lib.hid h0
          go_wp2_with fail
          refine hal4.out.mono ?_
          rintro e w4' ⟨rfl, hw4⟩
          rw [hw4]
          clear hw4
          have hbn : Below w4.heap.size w4 (w4.alloc (.cells #[.slice none 0 0, .slice none 0 0, .int .i64 (-1)] 45)) := (Below.refl _ _).alloc (Nat.le_refl _) _
          have hs4 := hb4.out.size
          have hbo : BagsO (w4.alloc (.cells #[.slice none 0 0, .slice none 0 0, .int .i64 (-1)] 45)) w.heap.size (.slice (some ⟨w4.heap.size, 0, none⟩) 1 1) [⟨[], [], -1⟩] := by
            refine ⟨[(.slice none 0 0, .slice none 0 0)], rfl, ⟨rfl, .inr ⟨w4.heap.size, 1, _, rfl, hs4, (Blk.new w4 _ _).eq, Nat.le_refl _, by simp [maxLen], rfl, rfl⟩⟩, fun i hi hi' => ?_⟩
            have : i = 0 := by simp at hi; omega
            subst this
            exact ⟨World.ownsRow_nil _ _ _ _, World.ownsRow_nil _ _ _ _⟩
          have hp := Lib.hid (hpost.out (.returned (.tuple #[.slice (some ⟨w4.heap.size, 0, none⟩) 1 1, .int .i64 0])) _ (hb4.out.trans (hbn.mono hs4)) (.inr ⟨by omega, _, _, rfl, hbo, .inl ⟨h0.out, rfl⟩⟩))
          clear hpost hwm hwi hsome hb4 hbn hbo hs4
          go_wp2
          go_ret2
          exact hp.out
        · have h0i : ((all : Int) == 0) = false := beq_eq_false_iff_ne.2 (by omega)
          have hmm := @run_makeMap Try.prog
          have hall5 := Lib.hid (fun V (h : GM V gb mb ns ms) => hall.out V gb mb h)
          go_wp2_with fail
          refine hal4.out.mono ?_
          rintro e w4' ⟨rfl, hw4⟩
          rw [hw4]
          clear hw4
          have hbn : Below w4.heap.size w4 (w4.alloc (.map #[] 0)) := (Below.refl _ _).alloc (Nat.le_refl _) _
          have hs4 := hb4.out.size
          have hmlt := hwm.out.g.known.lt
          have hklt := hwm.out.mw.lt
          have hllt := hwm.out.ml.lt
          have hmd : MapI Try.prog 64 3 .i64 .i64 (w4.alloc (.map #[] 0)) w4.heap.size 0 (fun _ => none) := MapI.made w4
          have hD : DS w (w4.alloc (.map #[] 0)) (w4.alloc (.map #[] 0)) wb gb mb kb lb w4.heap.size turn ns ms fw fl all 0 (fun _ => none) (.slice none 0 0) :=
            ⟨hb4.out.trans (hbn.mono hs4), Keep.refl _ _, hwm.out.below hbn, (hwm.out.g.below hbn).known, hwi.out, fun h => hsome.out h0, hmd, hmd.isMap, fun u hu => rfl, by omega, by omega, by omega, hmb, hs4, BagsO.nil _ _⟩
          clear hmd
          have hal6 := Lib.hid (hall5.out _ hD.wm.g)
          replace hD := Lib.hid hD
          replace h0 := Lib.hid h0
          clear hal4 hbn hb4 hwm hwi hsome
          go_wp2_with fail
          generalize w4.alloc (.map #[] 0) = w5 at *
          refine hal6.out.mono ?_
          rintro e w4' ⟨rfl, hw4⟩
          rw [hw4]
          clear hw4 hal6
          generalize w4.heap.size = ab at *
          go_wp2
          go_loopw [11, 13] (fun l o wr => ∃ (i : Nat) (f : Int → Option Int) (lv : Value), l = lv ∧ o = .int .u16 ((outS ms turn all i : Nat) : Int) ∧ Hid (∀ j, j < i → outS ms turn all j ≠ 0) ∧ Hid (DS w w5 wr wb gb mb kb lb ab turn ns ms fw fl all i f lv)) (fun _ o _ => seenOf o)
          case atStart => exact ⟨0, _, _, rfl, rfl, Lib.hid (fun j h => by omega), hD⟩
          case round =>
            clear hD
            obtain ⟨i, f, lv, hlv, rfl, hlow, hD⟩ := hrel
            replace hlv := hlv.symm
            subst hlv
            by_cases hz : outS ms turn all i = 0
            · have hzi : (((outS ms turn all i : Nat) : Int) != 0) = false := by rw [hz]; rfl
              have hp := Lib.hid (hpost.out (.returned (.tuple #[lv, .int .i64 0])) wr hD.out.below (.inr ⟨by omega, _, _, rfl, hD.out.bags.low hD.out.below0.size, .inr ⟨h0.out, i, hz, hlow.out, rfl⟩⟩))
              clear hpost hD hlow hz
              go_wp2
              go_ret2
              exact hp.out
            · have hzi : (((outS ms turn all i : Nat) : Int) != 0) = true := by simp; omega
              have hsum := outS_sum (turn := turn) hgood i hlow.out
              have hdrop := outS_drop (k := turn) hgood hz
              have hvin := vS_in (k := turn) hgood hz
              have ho16 := outS_lt (k := turn) hgood i
              have ho16b := outS_lt (k := turn) hgood (i + 1)
              have hv16 := v16 (k := turn) hgood hz
              have hgone : (outS ms turn all (i + 1)).testBit (vS ms turn all i) = false := gone hgood hz (Nat.lt_succ_self i)
              have hwo1 := without_v (outS ms turn all i) (vS ms turn all i) 
              have hos : minus (outS ms turn all i) (bit (vS ms turn all i)) = outS ms turn all (i + 1) := rfl
              rw [hos] at hwo1
              have hbg := fun V (h : GM V gb mb ns ms) => bag_any V gb mb ns ms h (vS ms turn all i) (outS ms turn all (i + 1)) hv16 ho16b hgone
              have hss : bagN ms (outS ms turn all (i + 1)) (vS ms turn all i) = sS ms turn all i := rfl
              rw [hss] at hbg
              have hs16 : sS ms turn all i < 65536 := bagN_lt hgood.hE hv16
              have hwo2 := without_v (sS ms turn all i) (vS ms turn all i)
              have hm16 := minus_lt (sS ms turn all i) (bit (vS ms turn all i)) hs16
              have hli := fun V => list_v (minus (sS ms turn all i) (bit (vS ms turn all i))) V hm16
              have hsn : ∀ x ∈ bits (sS ms turn all i), x < ns.length := fun x hx => hbits x (sS_all hgood hz ((mem_bits hs16).1 hx))
              have htd := fun V (h : GM V gb mb ns ms) p => told_any V gb mb ns ms h (sS ms turn all i) hs16 hsn p
              obtain ⟨wv, hwv⟩ := Option.isSome_iff_exists.1 (hD.out.has hz)
              have hfl : fl ((outS ms turn all i : Nat) : Int) = some ((vS ms turn all i : Nat) : Int) := (hD.out.wi _ wv ho16 hwv).2.1
              have hnext := fun (wm : World) (f : Int → Option Int) (lv : Value) (hD : DS w w5 wm wb gb mb kb lb ab turn ns ms fw fl all i f lv) (w1 w2 w3 : World) (lv' vv ve : Value) => DS.next (w1 := w1) (w2 := w2) (w3 := w3) (lv' := lv') (vv := vv) (ve := ve) hD hgood hz
              have hrange : sS ms turn all i = sS ms turn all i ∧ (i = 0 → bits (minus (sS ms turn all i) (bit (vS ms turn all i))) = []) := ⟨rfl, fun hi0 => by
                apply List.eq_nil_iff_forall_not_mem.2
                intro x hx
                rw [mem_bits hm16, testBit_minus hs16 (bit_lt hv16), testBit_bit, Bool.and_eq_true] at hx
                obtain ⟨j, hj, _⟩ := sS_before hgood hz hx.1 (fun e => by simp [e] at hx)
                omega⟩
              have hbi : ∀ p, p = parI ms turn all i → (⟨namesOf ns (bits (sS ms turn all i)), natI (bits (coverN ms (sS ms turn all i))), p⟩ : BagD) = bagI ns ms turn all i := fun p hp => by rw [hp]; rfl
              have hbs1 := bagsR_succ ns ms turn all i
              have hbl := bagsR_length ns ms turn all i
              have hpar : parI ms turn all i = if i = 0 then -1 else ((lastAt ms turn all i (bits (minus (sS ms turn all i) (bit (vS ms turn all i)))) 0 : Nat) : Int) := rfl
              have hLl16 := bits_le (minus (sS ms turn all i) (bit (vS ms turn all i)))
              have hu16 : ∀ u ∈ bits (minus (sS ms turn all i) (bit (vS ms turn all i))), u < 16 := fun u hu => (bits_lt hu).1
              generalize hout : outS ms turn all i = out at *
              generalize hout1 : outS ms turn all (i + 1) = out1 at *
              generalize hvv : vS ms turn all i = v at *
              generalize hsv : sS ms turn all i = sv at *
              generalize bits (minus sv (bit v)) = L at *
              generalize minus sv (bit v) = sm at *
              have z2 := hD.out.wm.blk.cell 2 rfl
              have hml := Lib.hid hD.out.wm.ml
              have hwf := wf16 ho16
              replace hwo1 := Lib.hid hwo1
              replace hbg := Lib.hid hbg
              replace hwo2 := Lib.hid hwo2
              replace hli := Lib.hid hli
              replace htd := Lib.hid htd
              replace hnext := Lib.hid hnext
              replace hrange := Lib.hid hrange
              replace hbi := Lib.hid hbi
              replace hbs1 := Lib.hid hbs1
              replace hbl := Lib.hid hbl
              replace hpar := Lib.hid hpar
              replace hout := Lib.hid hout
              replace hout1 := Lib.hid hout1
              replace hvv := Lib.hid hvv
              replace hsv := Lib.hid hsv
              replace hfl := Lib.hid hfl
              replace hlow := Lib.hid (show ∀ j, j < i + 1 → outS ms turn all j ≠ 0 from fun j hj => by
                by_cases hji : j = i
                · rw [hji, hout.out]; exact hz
                · exact hlow.out j (by omega))
              clear hwv hos hss hsn
              go_wp2_with (at_lookup; refine wpList_mapI imL _ rfl _ _ rfl lb 65536 fl rfl hml.out (out : Int) rfl hwf _ hfl.out ?_)
              refine (hwo1.out wr ho16 hv16).mono ?_
              rintro e w7 ⟨rfl, rfl⟩
              go_wp2_with fail
              refine (hbg.out _ hD.out.wm.g).mono ?_
              rintro e w8 ⟨rfl, rfl⟩
              obtain ⟨rs, hrl, hrow, hel⟩ := hD.out.bags
              rw [hbl.out] at hrow
              obtain ⟨al, cl, rfl⟩ := own_form3 hrow
              clear hrl hrow hel z2 hml
              by_cases hi0 : i = 0
              · have hgi : ¬ (0 : Int) < (i : Int) := by omega
                have hP : ∀ k, parP ms turn all i L k = -1 := fun k => by unfold parP; rw [if_pos hi0]
                have hLn : L.length = 0 := by rw [hrange.out.2 hi0]; rfl
                replace hP := Lib.hid hP
                replace hi0 := Lib.hid hi0
                go_wp2_with fail
                refine (hwo2.out _ hs16 hv16).mono ?_
                rintro e w7 ⟨rfl, rfl⟩
                go_wp2_with fail
                refine (hli.out w7).mono ?_
                rintro e w9 ⟨sl, rfl, hsl⟩
                have hD9 := Lib.hid (hD.out.on hsl.below)
                obtain ⟨al9, cl9, rfl, -, hrow9⟩ := hsl.row.form
                rw [natsV_length]
                replace hrow9 := Lib.hid hrow9
                clear hsl hD
                go_wp2
                go_loop [16, 70] (fun p j => ∃ k : Nat, k ≤ L.length ∧ j = .int .i64 (k : Int) ∧ p = .int .i64 (parP ms turn all i L k)) (fun _ j => L.length - (intOf j).toNat)
                case atStart => exact ⟨0, by omega, rfl, by rw [hP.out]⟩
                case round =>
                  obtain ⟨k, hk, rfl, rfl⟩ := hrel
                  by_cases hlt : k < L.length
                  · skip
                    exact absurd hlt (by omega)
                  · have hki : ¬ (k : Int) < (L.length : Int) := by omega
                    obtain rfl : k = L.length := by omega
                    have hpp : parP ms turn all i L L.length = parI ms turn all i := by rw [hpar.out]; unfold parP; rw [List.take_length]
                    rw [hpp]
                    have hbg2 := hbi.out _ rfl
                    generalize hpp2 : parI ms turn all i = p at *
                    replace hpp2 := Lib.hid hpp2
                    have hma := Lib.hid hD9.out.mat
                    have hwv := WalkArith.wf_i64 (n := (v : Int)) (by omega)
                    have hwi := WalkArith.wf_i64 (n := (i : Int)) (by omega)
                    clear hrow9 hpp hlt
                    go_wp2_with (at_mapUpdate; refine wpList_mapI_put imA _ rfl _ _ _ rfl ab i f rfl hma.out (by unfold maxLen; omega) (v : Int) (i : Int) rfl rfl hwv hwi ?_; intro w10 hm10 hg10)
                    have hka : Keep [ab] w9 w10 := (Keep.refl [ab] w9).grown hg10 (fun k hk _ => by cases hk; simp)
                    have hg9 := hD9.out.wm.g
                    have hG10 : GM w10 gb mb ns ms := hg9.stay (stay_of_keep hka (fun x hx => by simp at hx; rw [hx]; exact hD9.out.mat.isMap)) hka.size (hg9.known.same (hka.block _ hg9.known.lt (by simp [hD9.out.m1.symm])))
                    have htd1 := Lib.hid (htd.out w10 hG10 p)
                    have hs10 : w5.heap.size ≤ w10.heap.size := Nat.le_trans hD9.out.keep.size hka.size
                    replace hm10 := Lib.hid hm10
                    replace hg10 := Lib.hid hg10
                    obtain ⟨rs, hrl, hrow, hel⟩ := hD9.out.bags
                    rw [hbl.out] at hrow
                    generalize (rs.zip (bagsR ns ms turn all i)).flatMap (fun x => bagV x.1.1 x.1.2 x.2.parent) = xs at *
                    have hrow2 := Lib.hid ((hrow.kept hg10.out (.inr (own_map3 hrow hD9.out.mat.isMap))))
                    have hmap10 : ∃ es clock, w10.heap[mb]? = some (.map es clock) := hG10.known.isMap
                    clear hrl hrow hel hg9 hG10 hka hma
                    refine htd1.out.mono ?_
                    rintro e w11 ⟨vv, ve, rfl, hk11, hn11, hov, hoe⟩
                    have hov2 := own_base (B' := w5.heap.size) hov (by omega)
                    have hoe2 := own_base (B' := w5.heap.size) hoe (by omega)
                    have hs11 : w5.heap.size ≤ w11.heap.size := Nat.le_trans hs10 hk11.size
                    have hown := hrow2.out.kept (grown_keep hk11) (.inr (own_map3 hrow2.out hmap10))
                    obtain ⟨av, cv, rfl⟩ := own_form3 hov
                    obtain ⟨aw, cw, rfl⟩ := own_form3 hoe
                    have hi16 : i ≤ 65535 := by omega
                    have hvB : Hid (w11.ownsRow w5.heap.size 9 1 (.slice av (bits sv).length cv) (bagI ns ms turn all i).names.length (textsV (bagI ns ms turn all i).names)) := by
                      rw [← hbg2]
                      rw [show (BagD.mk (namesOf ns (bits sv)) (natI (bits (coverN ms sv))) p).names.length = (bits sv).length from namesOf_length ns _]
                      exact hov2
                    have heB : Hid (w11.ownsRow w5.heap.size 3 1 (.slice aw (bits (coverN ms sv)).length cw) (bagI ns ms turn all i).edges.length (numsV (bagI ns ms turn all i).edges)) := by
                      rw [← hbg2]
                      rw [show (BagD.mk (namesOf ns (bits sv)) (natI (bits (coverN ms sv))) p).edges.length = (bits (coverN ms sv)).length from natI_length _]
                      rw [show numsV (BagD.mk (namesOf ns (bits sv)) (natI (bits (coverN ms sv))) p).edges = natsV (bits (coverN ms sv)) from numsV_natI _]
                      exact hoe2
                    have hpB : Hid ((bagI ns ms turn all i).parent = p) := Lib.hid (by rw [← hbg2])
                    clear hov2 hoe2
                    replace hk11 := Lib.hid hk11
                    replace hn11 := Lib.hid hn11
                    clear hov hoe htd1 hrow2
                    generalize (bits sv).length = nv at *
                    generalize (bits (coverN ms sv)).length = ne at *
                    go_wp2_with (at_builtin; refine wpList_append_own _ rfl _ _ 23 rfl w5.heap.size 45 i0 (.agg #[.slice none 0 0, .slice none 0 0, .int .i64 0]) 3 56 Try.underlying23 hi.out hz0.out hz1.out hz2.out rfl (by decide) _ i xs rfl (hown.alloc _) _ 1 _ [.slice av nv cv, .slice aw ne cw, .int .i64 p] rfl rfl ?a1 ?a2 ?a3 ?a4 ?a5 ?a6)
                    case a1 =>
                      intro j u hj
                      have hn3 := Blk.new w11 #[.slice av nv cv, .slice aw ne cw, .int .i64 p] 45
                      rw [Go.WideShapes.add_plain, Nat.zero_add]
                      refine hn3.cell j ?_
                      simpa using hj
                    case a2 => intro u hu; simp only [List.mem_cons, List.not_mem_nil, or_false] at hu; rcases hu with rfl | rfl | rfl <;> rfl
                    case a3 => simp only [maxLen]; omega
                    case a4 => omega
                    case a5 => simp only [World.size_alloc]; omega
                    case a6 =>
                      intro v' w12 h1 h2 _
                      have hD12 := hnext.out w9 f _ hD9.out w10 w11 w12 v' (.slice av nv cv) (.slice aw ne cw) hm10.out hg10.out hk11.out hn11.out hvB.out heB.out (.cells #[.slice av nv cv, .slice aw ne cw, .int .i64 p] 45) xs hown (by rw [hpB.out]; exact h1) h2
                      replace hD12 := Lib.hid hD12
                      clear hD9 hm10 hg10 hk11 hn11 hvB heB hpB hown h1 h2 hnext hbg2
                      go_wp2
                      go_roundw
                      case rel => exact ⟨i + 1, _, v', rfl, by rw [hout1.out], hlow, hD12⟩
                      case measure => simp [seenOf]; omega
              · have hgi : (0 : Int) < (i : Int) := by omega
                have hP : parP ms turn all i L 0 = 0 := by unfold parP; rw [if_neg hi0]; rfl
                replace hP := Lib.hid hP
                replace hi0 := Lib.hid hi0
                go_wp2_with fail
                refine (hwo2.out _ hs16 hv16).mono ?_
                rintro e w7 ⟨rfl, rfl⟩
                go_wp2_with fail
                refine (hli.out w7).mono ?_
                rintro e w9 ⟨sl, rfl, hsl⟩
                have hD9 := Lib.hid (hD.out.on hsl.below)
                obtain ⟨al9, cl9, rfl, -, hrow9⟩ := hsl.row.form
                rw [natsV_length]
                replace hrow9 := Lib.hid hrow9
                clear hsl hD
                go_wp2
                go_loop [16, 70] (fun p j => ∃ k : Nat, k ≤ L.length ∧ j = .int .i64 (k : Int) ∧ p = .int .i64 (parP ms turn all i L k)) (fun _ j => L.length - (intOf j).toNat)
                case atStart => exact ⟨0, by omega, rfl, by rw [hP.out]⟩
                case round =>
                  obtain ⟨k, hk, rfl, rfl⟩ := hrel
                  by_cases hlt : k < L.length
                  · skip
                    have hki : (k : Int) < (L.length : Int) := by omega
                    have hk1 := Lib.hid (show k + 1 ≤ L.length from hlt)
                    obtain ⟨b9, off9, rfl, -, hc⟩ := hrow9.out k (by rw [natsV_length]; exact hlt)
                    have hck : w9.cell? ⟨b9, off9 + k, none⟩ = some (.int .i64 ((L[k] : Nat) : Int)) := by rw [hc]; unfold natsV; rw [List.getElem_map]; rfl
                    have htk : L.take (k + 1) = L.take k ++ [L[k]] := List.take_succ_eq_append_getElem hlt
                    have hu := hu16 _ (List.getElem_mem hlt)
                    have hat := hD9.out.atf _ hu
                    have hpk : parP ms turn all i L k = ((lastAt ms turn all i (L.take k) 0 : Nat) : Int) := by unfold parP; rw [if_neg hi0.out]
                    have hpk1 : parP ms turn all i L (k + 1) = ((max (lastAt ms turn all i (L.take k) 0) (atS ms turn all i L[k]) : Nat) : Int) := by unfold parP; rw [if_neg hi0.out, htk, lastAt_snoc]
                    clear hc htk
                    generalize L[k] = u at *
                    generalize lastAt ms turn all i (L.take k) 0 = a at *
                    generalize atS ms turn all i u = c at *
                    rw [hpk]
                    replace hpk1 := Lib.hid hpk1
                    have hmx : (if a < c then (c : Int) else (a : Int)) = ((max a c : Nat) : Int) := by split <;> omega
                    generalize max a c = x at *
                    replace hmx := Lib.hid hmx
                    obtain ⟨r, hr⟩ : ∃ r, f (u : Int) = r := ⟨_, rfl⟩
                    rw [hr] at hat
                    replace hr := Lib.hid hr
                    have hma := Lib.hid hD9.out.mat
                    have hwu : (Lit.int .i64 (u : Int)).wf = true := WalkArith.wf_i64 (by omega)
                    clear hpk
                    go_wp2_with (at_lookup; refine wpList_mapI imA _ rfl _ _ rfl ab i f rfl hma.out (u : Int) rfl hwu r hr.out ?_)
                    rw [hmx.out]
                    go_round
                    case rel => exact ⟨k + 1, hk1.out, by go_num, by rw [hpk1.out]⟩
                    case measure => have := hk1.out; simp [intOf]; omega
                  · have hki : ¬ (k : Int) < (L.length : Int) := by omega
                    obtain rfl : k = L.length := by omega
                    have hpp : parP ms turn all i L L.length = parI ms turn all i := by rw [hpar.out]; unfold parP; rw [List.take_length]
                    rw [hpp]
                    have hbg2 := hbi.out _ rfl
                    generalize hpp2 : parI ms turn all i = p at *
                    replace hpp2 := Lib.hid hpp2
                    have hma := Lib.hid hD9.out.mat
                    have hwv := WalkArith.wf_i64 (n := (v : Int)) (by omega)
                    have hwi := WalkArith.wf_i64 (n := (i : Int)) (by omega)
                    clear hrow9 hpp hlt
                    go_wp2_with (at_mapUpdate; refine wpList_mapI_put imA _ rfl _ _ _ rfl ab i f rfl hma.out (by unfold maxLen; omega) (v : Int) (i : Int) rfl rfl hwv hwi ?_; intro w10 hm10 hg10)
                    have hka : Keep [ab] w9 w10 := (Keep.refl [ab] w9).grown hg10 (fun k hk _ => by cases hk; simp)
                    have hg9 := hD9.out.wm.g
                    have hG10 : GM w10 gb mb ns ms := hg9.stay (stay_of_keep hka (fun x hx => by simp at hx; rw [hx]; exact hD9.out.mat.isMap)) hka.size (hg9.known.same (hka.block _ hg9.known.lt (by simp [hD9.out.m1.symm])))
                    have htd1 := Lib.hid (htd.out w10 hG10 p)
                    have hs10 : w5.heap.size ≤ w10.heap.size := Nat.le_trans hD9.out.keep.size hka.size
                    replace hm10 := Lib.hid hm10
                    replace hg10 := Lib.hid hg10
                    obtain ⟨rs, hrl, hrow, hel⟩ := hD9.out.bags
                    rw [hbl.out] at hrow
                    generalize (rs.zip (bagsR ns ms turn all i)).flatMap (fun x => bagV x.1.1 x.1.2 x.2.parent) = xs at *
                    have hrow2 := Lib.hid ((hrow.kept hg10.out (.inr (own_map3 hrow hD9.out.mat.isMap))))
                    have hmap10 : ∃ es clock, w10.heap[mb]? = some (.map es clock) := hG10.known.isMap
                    clear hrl hrow hel hg9 hG10 hka hma
                    refine htd1.out.mono ?_
                    rintro e w11 ⟨vv, ve, rfl, hk11, hn11, hov, hoe⟩
                    have hov2 := own_base (B' := w5.heap.size) hov (by omega)
                    have hoe2 := own_base (B' := w5.heap.size) hoe (by omega)
                    have hs11 : w5.heap.size ≤ w11.heap.size := Nat.le_trans hs10 hk11.size
                    have hown := hrow2.out.kept (grown_keep hk11) (.inr (own_map3 hrow2.out hmap10))
                    obtain ⟨av, cv, rfl⟩ := own_form3 hov
                    obtain ⟨aw, cw, rfl⟩ := own_form3 hoe
                    have hi16 : i ≤ 65535 := by omega
                    have hvB : Hid (w11.ownsRow w5.heap.size 9 1 (.slice av (bits sv).length cv) (bagI ns ms turn all i).names.length (textsV (bagI ns ms turn all i).names)) := by
                      rw [← hbg2]
                      rw [show (BagD.mk (namesOf ns (bits sv)) (natI (bits (coverN ms sv))) p).names.length = (bits sv).length from namesOf_length ns _]
                      exact hov2
                    have heB : Hid (w11.ownsRow w5.heap.size 3 1 (.slice aw (bits (coverN ms sv)).length cw) (bagI ns ms turn all i).edges.length (numsV (bagI ns ms turn all i).edges)) := by
                      rw [← hbg2]
                      rw [show (BagD.mk (namesOf ns (bits sv)) (natI (bits (coverN ms sv))) p).edges.length = (bits (coverN ms sv)).length from natI_length _]
                      rw [show numsV (BagD.mk (namesOf ns (bits sv)) (natI (bits (coverN ms sv))) p).edges = natsV (bits (coverN ms sv)) from numsV_natI _]
                      exact hoe2
                    have hpB : Hid ((bagI ns ms turn all i).parent = p) := Lib.hid (by rw [← hbg2])
                    clear hov2 hoe2
                    replace hk11 := Lib.hid hk11
                    replace hn11 := Lib.hid hn11
                    clear hov hoe htd1 hrow2
                    generalize (bits sv).length = nv at *
                    generalize (bits (coverN ms sv)).length = ne at *
                    go_wp2_with (at_builtin; refine wpList_append_own _ rfl _ _ 23 rfl w5.heap.size 45 i0 (.agg #[.slice none 0 0, .slice none 0 0, .int .i64 0]) 3 56 Try.underlying23 hi.out hz0.out hz1.out hz2.out rfl (by decide) _ i xs rfl (hown.alloc _) _ 1 _ [.slice av nv cv, .slice aw ne cw, .int .i64 p] rfl rfl ?b1 ?b2 ?b3 ?b4 ?b5 ?b6)
                    case b1 =>
                      intro j u hj
                      have hn3 := Blk.new w11 #[.slice av nv cv, .slice aw ne cw, .int .i64 p] 45
                      rw [Go.WideShapes.add_plain, Nat.zero_add]
                      refine hn3.cell j ?_
                      simpa using hj
                    case b2 => intro u hu; simp only [List.mem_cons, List.not_mem_nil, or_false] at hu; rcases hu with rfl | rfl | rfl <;> rfl
                    case b3 => simp only [maxLen]; omega
                    case b4 => omega
                    case b5 => simp only [World.size_alloc]; omega
                    case b6 =>
                      intro v' w12 h1 h2 _
                      have hD12 := hnext.out w9 f _ hD9.out w10 w11 w12 v' (.slice av nv cv) (.slice aw ne cw) hm10.out hg10.out hk11.out hn11.out hvB.out heB.out (.cells #[.slice av nv cv, .slice aw ne cw, .int .i64 p] 45) xs hown (by rw [hpB.out]; exact h1) h2
                      replace hD12 := Lib.hid hD12
                      clear hD9 hm10 hg10 hk11 hn11 hvB heB hpB hown h1 h2 hnext hbg2
                      go_wp2
                      go_roundw
                      case rel => exact ⟨i + 1, _, v', rfl, by rw [hout1.out], hlow, hD12⟩
                      case measure => simp [seenOf]; omega
end Go.Proofs.Ytnocncmjdhlmkaa.hyp
