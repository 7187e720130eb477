/- Contracts of decimal.Read, Check. -/
import Derived.Test.YthecgifgjagmaaaGreatDoorDecRead
namespace Go.Proofs.YthecgifgjagmaaaGreatDoor.dec
open Go.ChangeShapes Go.WideShapes Go.ChangeAt Go.RowKit kit
set_option linter.unusedVariables false

theorem Env.drewN {w : World} (h : Env w) (n : Nat) : Env (w.drewN n) := ⟨h.max, h.pow, h.syn, h.rng, h.size⟩
theorem var?_below {P : Program} {B : Nat} {w w' : World} {name : String} (hb : Below B w w') (hg : ∀ g, P.globalNamed name = some g → g < B) : w'.var? P name = w.var? P name := by
  unfold World.var?
  cases h : P.globalNamed name with
  | none => rfl
  | some g => simp [hb.block g (hg g h)]
theorem Env.below {w w' : World} (h : Env w) (hb : Below w.heap.size w w') : Env w' := by
  have h8 := h.size
  have hb8 : Below 8 w w' := hb.mono h8
  obtain ⟨m, hm⟩ := h.max
  have key : ∀ name, name ∈ ["internal/strconv.uint64pow10", "strconv.ErrSyntax", "strconv.ErrRange"] → w'.var? Tryz.prog name = w.var? Tryz.prog name := by
    intro name hn
    refine var?_below hb8 (fun g hg => ?_)
    simp only [List.mem_cons, List.mem_nil_iff, or_false] at hn
    rcases hn with rfl | rfl | rfl
    · have : Tryz.prog.globalNamed "internal/strconv.uint64pow10" = some 0 := by kernel_rfl
      rw [this] at hg; cases hg; decide
    · have : Tryz.prog.globalNamed "strconv.ErrSyntax" = some 4 := by kernel_rfl
      rw [this] at hg; cases hg; decide
    · have : Tryz.prog.globalNamed "strconv.ErrRange" = some 5 := by kernel_rfl
      rw [this] at hg; cases hg; decide
  refine ⟨⟨m, (hb8.cell (p := ⟨1, 0, none⟩) (by decide)).trans hm⟩, ?_, ?_, ?_, Nat.le_trans h8 hb.size⟩
  · unfold Lib.TabIs; rw [key _ (by simp)]; exact h.pow
  · rw [key _ (by simp)]; exact h.syn
  · rw [key _ (by simp)]; exact h.rng

/-- What stands behind the sign. -/
def readT (neg : Bool) (r : List UInt8) : List UInt8 × Int :=
  if numB (Lib.cut r [46]).1 && (!(Lib.cut r [46]).2.2 || numB (Lib.cut r [46]).2.1) then toldP neg (val ((Lib.cut r [46]).1 ++ (Lib.cut r [46]).2.1)) (Lib.cut r [46]).2.1.length else ([], 6)
def readP (l : List UInt8) : List UInt8 × Int := match l with
  | 45 :: r => readT true r
  | 43 :: r => readT false r
  | l => readT false l
theorem cut_le (r : List UInt8) : (Lib.cut r [46]).1.length ≤ r.length ∧ (Lib.cut r [46]).2.1.length ≤ r.length ∧ ((Lib.cut r [46]).2.2 = false → (Lib.cut r [46]).2.1 = []) := by
  unfold Lib.cut
  split
  · refine ⟨by simp; omega, by simp, by simp⟩
  · simp
theorem numB_all {l : List UInt8} (h : numB l = true) : allD l = true := by unfold numB at h; rw [Bool.and_eq_true] at h; exact h.2

theorem numeral_at (s : ByteArray) (b : Bool) (h : numB s.data.toList = b) (w : World) (hs : s.size ≤ 9223372036854775807) :
    Calls Tryz.prog 160 #[.string s] w fun e w' => e = .returned (.bool b) ∧ Below w.heap.size w w' := h ▸ numeral_any s w hs
theorem told_at (neg : Bool) (s : ByteArray) (N : Nat) (sc : Nat) (sci : Int) (hsci : sci = (sc : Nat)) (w : World) (hN : val s.data.toList = N) (hd : allD s.data.toList = true) (hsz : s.size ≤ 100000) (hsc : sc ≤ 100000) :
    Calls Tryz.prog 143 #[.bool neg, .string s, .int .i64 sci] w fun e w' => e = .returned (.tuple #[.string (tx (toldP neg N sc).1), .int .i64 (toldP neg N sc).2]) ∧ Below w.heap.size w w' := by
  subst hsci; exact hN ▸ told_any neg s sc w hd hsz hsc
theorem two_list (a b : List UInt8) : ((⟨a.toArray⟩ : ByteArray) ++ ⟨b.toArray⟩).data.toList = a ++ b := by simp
theorem two_size (a b : List UInt8) : ((⟨a.toArray⟩ : ByteArray) ++ ⟨b.toArray⟩).size = a.length + b.length := by
  have : ∀ x : ByteArray, x.size = x.data.toList.length := fun _ => rfl
  rw [this, two_list, List.length_append]
/- The rest of Read, the text behind the sign in slot 0: $1 that text, $2 the sign. -/
set_option maxRecDepth 100000 in
set_option maxHeartbeats 1000000 in
theorem read_plain (s : ByteArray) (w : World) (hE : Env w) (hs : s.size ≤ 50000) (h1 : Lib.hasPrefix s.data.toList [45] = false) (h2 : Lib.hasPrefix s.data.toList [43] = false) :
    Calls Tryz.prog 138 #[.string s] w fun e w' => e = .returned (rv (readT false s.data.toList)) ∧ Below w.heap.size w w' := by
  obtain ⟨m, hm⟩ := hE.max
  have hts : s.size ≤ 50000 := hs
  replace hm := Lib.hid hm
  replace hts := Lib.hid hts
  go_enter Tryz.func138, Tryz.ntmps138
  go_wp2_with fail
  refine (Tryz.strings_HasPrefix s ⟨#[45]⟩ _).mono ?_
  rintro e1 w1 ⟨rfl, rfl⟩
  go_wp2_with fail
  refine (Tryz.strings_HasPrefix s ⟨#[43]⟩ _).mono ?_
  rintro e1 w1 ⟨rfl, rfl⟩
  clear hE
  go_wp2_with fail
  refine (Tryz.strings_Cut s ⟨#[46]⟩ m _ (by have := hts.out; omega) hm.out).mono ?_
  rintro e1 w1 ⟨rfl, n1, rfl⟩
  replace hm := Lib.hid hm
  generalize hCW : (Lib.cut (s).data.toList (ByteArray.mk #[46]).data.toList).1 = W
  generalize hCP : (Lib.cut (s).data.toList (ByteArray.mk #[46]).data.toList).2.1 = P
  generalize hCT : (Lib.cut (s).data.toList (ByteArray.mk #[46]).data.toList).2.2 = pt
  have hcl := cut_le (s).data.toList
  have hrt : readT false s.data.toList = if numB W && (!pt || numB P) then toldP false (val (W ++ P)) P.length else ([], 6) := by first | (rw [← hCW, ← hCP, ← hCT]; rfl) | (rw [← hCW, ← hCP, ← hCT, ← hx.out]; rfl)
  rw [show (ByteArray.mk #[46]).data.toList = [46] from rfl] at hCW hCP hCT
  rw [hCW, hCP, hCT] at hcl
  clear hCW hCP hCT
  obtain ⟨cl1, cl2, cl3⟩ := hcl
  have hl1 : W.length ≤ 50000 := by have := hts.out; have h3 : (s).data.toList.length = (s).size := rfl; omega
  have hl2 : P.length ≤ 50000 := by have := hts.out; have h3 : (s).data.toList.length = (s).size := rfl; omega
  clear cl1 cl2
  replace cl3 := Lib.hid cl3
  replace hrt := Lib.hid hrt
  cases hW : numB W
  · go_wp2_with fail
    refine (numeral_at ⟨W.toArray⟩ false hW _ (by show W.toArray.size ≤ _; simp; omega)).mono ?_
    rintro e2 w2 ⟨rfl, hb2⟩
    go_wp2
    go_ret2
    exact ⟨ret_val (by rw [hrt.out, hW]; rfl), (Below_drewN _ (Below.refl _ _)).trans hb2⟩
  · cases pt
    · have hP := cl3.out rfl
      subst hP
      go_wp2_with fail
      refine (numeral_at ⟨W.toArray⟩ true hW _ (by show W.toArray.size ≤ _; simp; omega)).mono ?_
      rintro e2 w2 ⟨rfl, hb2⟩
      go_wp2_with fail
      refine (told_at false _ (val (W ++ [])) 0 _ rfl _ (by rw [show (#[] : Array UInt8) = ([] : List UInt8).toArray from rfl, two_list]) (by rw [show (#[] : Array UInt8) = ([] : List UInt8).toArray from rfl, two_list, List.append_nil]; exact numB_all hW) (by rw [show (#[] : Array UInt8) = ([] : List UInt8).toArray from rfl, two_size]; simp; omega) (by omega)).mono ?_
      rintro e3 w3 ⟨rfl, hb3⟩
      go_wp2
      go_ret2
      exact ⟨ret_val (by rw [hrt.out, hW, List.append_nil]; rfl), ((Below_drewN _ (Below.refl _ _)).trans hb2).trans (hb3.mono hb2.size)⟩
    · cases hP : numB P
      · go_wp2_with fail
        refine (numeral_at ⟨W.toArray⟩ true hW _ (by show W.toArray.size ≤ _; simp; omega)).mono ?_
        rintro e2 w2 ⟨rfl, hb2⟩
        go_wp2_with fail
        refine (numeral_at ⟨P.toArray⟩ false hP _ (by show P.toArray.size ≤ _; simp; omega)).mono ?_
        rintro e3 w3 ⟨rfl, hb3⟩
        go_wp2
        go_ret2
        exact ⟨ret_val (by rw [hrt.out, hW, hP]; rfl), ((Below_drewN _ (Below.refl _ _)).trans hb2).trans (hb3.mono hb2.size)⟩
      · go_wp2_with fail
        refine (numeral_at ⟨W.toArray⟩ true hW _ (by show W.toArray.size ≤ _; simp; omega)).mono ?_
        rintro e2 w2 ⟨rfl, hb2⟩
        go_wp2_with fail
        refine (numeral_at ⟨P.toArray⟩ true hP _ (by show P.toArray.size ≤ _; simp; omega)).mono ?_
        rintro e3 w3 ⟨rfl, hb3⟩
        have hsum : ((⟨W.toArray⟩ : ByteArray).size : Int) + ((⟨P.toArray⟩ : ByteArray).size : Int) ≤ 9223372036854775807 := by
          show ((W.toArray.size : Nat) : Int) + ((P.toArray.size : Nat) : Int) ≤ _; simp; omega
        go_wp2_with fail
        refine (told_at false _ (val (W ++ P)) P.length _ rfl _ (by rw [two_list]) (by rw [two_list, allD_append, numB_all hW, numB_all hP]; rfl) (by rw [two_size]; omega) (by omega)).mono ?_
        rintro e4 w4 ⟨rfl, hb4⟩
        go_wp2
        go_ret2
        exact ⟨ret_val (by rw [hrt.out, hW, hP]; rfl), (((Below_drewN _ (Below.refl _ _)).trans hb2).trans (hb3.mono hb2.size)).trans (hb4.mono (Nat.le_trans hb2.size hb3.size))⟩
set_option maxRecDepth 100000 in
set_option maxHeartbeats 1000000 in
theorem read_signed (neg : Bool) (s : ByteArray) (w : World) (hE : Env w) (hs : s.size ≤ 50000) (h0 : 1 ≤ s.size) (h1 : Lib.hasPrefix s.data.toList [45] = neg) (h2 : neg = false → Lib.hasPrefix s.data.toList [43] = true) :
    Calls Tryz.prog 138 #[.string s] w fun e w' => e = .returned (rv (readT neg s.data.toList.tail)) ∧ Below w.heap.size w w' := by
  obtain ⟨m, hm⟩ := hE.max
  have hts : (s.extract 1 s.size).size ≤ 50000 := by simp; omega
  have htl : (s.extract 1 s.size).data.toList = s.data.toList.tail := by
    rw [Lib.extract_data, List.drop_one, List.take_of_length_le]
    rw [List.length_tail]; exact Nat.le_refl _
  have h0i : (1 : Int) ≤ (s.size : Nat) := by omega
  replace hm := Lib.hid hm
  replace hts := Lib.hid hts
  replace htl := Lib.hid htl
  cases neg
  · replace h2 := h2 rfl
    go_enter Tryz.func138, Tryz.ntmps138
    go_wp2_with fail
    refine (Tryz.strings_HasPrefix s ⟨#[45]⟩ _).mono ?_
    rintro e1 w1 ⟨rfl, rfl⟩
    go_wp2_with fail
    refine (Tryz.strings_HasPrefix s ⟨#[43]⟩ _).mono ?_
    rintro e1 w1 ⟨rfl, rfl⟩
    clear hE
    go_wp2_with fail
    obtain ⟨t, ht⟩ : ∃ t, s.extract 1 s.size = t := ⟨_, rfl⟩
    rw [ht]
    have hx : Hid (t.data.toList = s.data.toList.tail) := by rw [← ht]; exact htl.out
    rw [ht] at hts
    clear htl ht
    go_wp2_with fail
    refine (Tryz.strings_Cut t ⟨#[46]⟩ m _ (by have := hts.out; omega) hm.out).mono ?_
    rintro e1 w1 ⟨rfl, n1, rfl⟩
    replace hm := Lib.hid hm
    generalize hCW : (Lib.cut (t).data.toList (ByteArray.mk #[46]).data.toList).1 = W
    generalize hCP : (Lib.cut (t).data.toList (ByteArray.mk #[46]).data.toList).2.1 = P
    generalize hCT : (Lib.cut (t).data.toList (ByteArray.mk #[46]).data.toList).2.2 = pt
    have hcl := cut_le (t).data.toList
    have hrt : readT false s.data.toList.tail = if numB W && (!pt || numB P) then toldP false (val (W ++ P)) P.length else ([], 6) := by first | (rw [← hCW, ← hCP, ← hCT]; rfl) | (rw [← hCW, ← hCP, ← hCT, ← hx.out]; rfl)
    rw [show (ByteArray.mk #[46]).data.toList = [46] from rfl] at hCW hCP hCT
    rw [hCW, hCP, hCT] at hcl
    clear hCW hCP hCT
    obtain ⟨cl1, cl2, cl3⟩ := hcl
    have hl1 : W.length ≤ 50000 := by have := hts.out; have h3 : (t).data.toList.length = (t).size := rfl; omega
    have hl2 : P.length ≤ 50000 := by have := hts.out; have h3 : (t).data.toList.length = (t).size := rfl; omega
    clear cl1 cl2
    replace cl3 := Lib.hid cl3
    replace hrt := Lib.hid hrt
    cases hW : numB W
    · go_wp2_with fail
      refine (numeral_at ⟨W.toArray⟩ false hW _ (by show W.toArray.size ≤ _; simp; omega)).mono ?_
      rintro e2 w2 ⟨rfl, hb2⟩
      go_wp2
      go_ret2
      exact ⟨ret_val (by rw [hrt.out, hW]; rfl), (Below_drewN _ (Below.refl _ _)).trans hb2⟩
    · cases pt
      · have hP := cl3.out rfl
        subst hP
        go_wp2_with fail
        refine (numeral_at ⟨W.toArray⟩ true hW _ (by show W.toArray.size ≤ _; simp; omega)).mono ?_
        rintro e2 w2 ⟨rfl, hb2⟩
        go_wp2_with fail
        refine (told_at false _ (val (W ++ [])) 0 _ rfl _ (by rw [show (#[] : Array UInt8) = ([] : List UInt8).toArray from rfl, two_list]) (by rw [show (#[] : Array UInt8) = ([] : List UInt8).toArray from rfl, two_list, List.append_nil]; exact numB_all hW) (by rw [show (#[] : Array UInt8) = ([] : List UInt8).toArray from rfl, two_size]; simp; omega) (by omega)).mono ?_
        rintro e3 w3 ⟨rfl, hb3⟩
        go_wp2
        go_ret2
        exact ⟨ret_val (by rw [hrt.out, hW, List.append_nil]; rfl), ((Below_drewN _ (Below.refl _ _)).trans hb2).trans (hb3.mono hb2.size)⟩
      · cases hP : numB P
        · go_wp2_with fail
          refine (numeral_at ⟨W.toArray⟩ true hW _ (by show W.toArray.size ≤ _; simp; omega)).mono ?_
          rintro e2 w2 ⟨rfl, hb2⟩
          go_wp2_with fail
          refine (numeral_at ⟨P.toArray⟩ false hP _ (by show P.toArray.size ≤ _; simp; omega)).mono ?_
          rintro e3 w3 ⟨rfl, hb3⟩
          go_wp2
          go_ret2
          exact ⟨ret_val (by rw [hrt.out, hW, hP]; rfl), ((Below_drewN _ (Below.refl _ _)).trans hb2).trans (hb3.mono hb2.size)⟩
        · go_wp2_with fail
          refine (numeral_at ⟨W.toArray⟩ true hW _ (by show W.toArray.size ≤ _; simp; omega)).mono ?_
          rintro e2 w2 ⟨rfl, hb2⟩
          go_wp2_with fail
          refine (numeral_at ⟨P.toArray⟩ true hP _ (by show P.toArray.size ≤ _; simp; omega)).mono ?_
          rintro e3 w3 ⟨rfl, hb3⟩
          have hsum : ((⟨W.toArray⟩ : ByteArray).size : Int) + ((⟨P.toArray⟩ : ByteArray).size : Int) ≤ 9223372036854775807 := by
            show ((W.toArray.size : Nat) : Int) + ((P.toArray.size : Nat) : Int) ≤ _; simp; omega
          go_wp2_with fail
          refine (told_at false _ (val (W ++ P)) P.length _ rfl _ (by rw [two_list]) (by rw [two_list, allD_append, numB_all hW, numB_all hP]; rfl) (by rw [two_size]; omega) (by omega)).mono ?_
          rintro e4 w4 ⟨rfl, hb4⟩
          go_wp2
          go_ret2
          exact ⟨ret_val (by rw [hrt.out, hW, hP]; rfl), (((Below_drewN _ (Below.refl _ _)).trans hb2).trans (hb3.mono hb2.size)).trans (hb4.mono (Nat.le_trans hb2.size hb3.size))⟩
  · go_enter Tryz.func138, Tryz.ntmps138
    go_wp2_with fail
    refine (Tryz.strings_HasPrefix s ⟨#[45]⟩ _).mono ?_
    rintro e1 w1 ⟨rfl, rfl⟩
    clear hE
    go_wp2_with fail
    obtain ⟨t, ht⟩ : ∃ t, s.extract 1 s.size = t := ⟨_, rfl⟩
    rw [ht]
    have hx : Hid (t.data.toList = s.data.toList.tail) := by rw [← ht]; exact htl.out
    rw [ht] at hts
    clear htl ht
    go_wp2_with fail
    refine (Tryz.strings_Cut t ⟨#[46]⟩ m _ (by have := hts.out; omega) hm.out).mono ?_
    rintro e1 w1 ⟨rfl, n1, rfl⟩
    replace hm := Lib.hid hm
    generalize hCW : (Lib.cut (t).data.toList (ByteArray.mk #[46]).data.toList).1 = W
    generalize hCP : (Lib.cut (t).data.toList (ByteArray.mk #[46]).data.toList).2.1 = P
    generalize hCT : (Lib.cut (t).data.toList (ByteArray.mk #[46]).data.toList).2.2 = pt
    have hcl := cut_le (t).data.toList
    have hrt : readT true s.data.toList.tail = if numB W && (!pt || numB P) then toldP true (val (W ++ P)) P.length else ([], 6) := by first | (rw [← hCW, ← hCP, ← hCT]; rfl) | (rw [← hCW, ← hCP, ← hCT, ← hx.out]; rfl)
    rw [show (ByteArray.mk #[46]).data.toList = [46] from rfl] at hCW hCP hCT
    rw [hCW, hCP, hCT] at hcl
    clear hCW hCP hCT
    obtain ⟨cl1, cl2, cl3⟩ := hcl
    have hl1 : W.length ≤ 50000 := by have := hts.out; have h3 : (t).data.toList.length = (t).size := rfl; omega
    have hl2 : P.length ≤ 50000 := by have := hts.out; have h3 : (t).data.toList.length = (t).size := rfl; omega
    clear cl1 cl2
    replace cl3 := Lib.hid cl3
    replace hrt := Lib.hid hrt
    cases hW : numB W
    · go_wp2_with fail
      refine (numeral_at ⟨W.toArray⟩ false hW _ (by show W.toArray.size ≤ _; simp; omega)).mono ?_
      rintro e2 w2 ⟨rfl, hb2⟩
      go_wp2
      go_ret2
      exact ⟨ret_val (by rw [hrt.out, hW]; rfl), (Below_drewN _ (Below.refl _ _)).trans hb2⟩
    · cases pt
      · have hP := cl3.out rfl
        subst hP
        go_wp2_with fail
        refine (numeral_at ⟨W.toArray⟩ true hW _ (by show W.toArray.size ≤ _; simp; omega)).mono ?_
        rintro e2 w2 ⟨rfl, hb2⟩
        go_wp2_with fail
        refine (told_at true _ (val (W ++ [])) 0 _ rfl _ (by rw [show (#[] : Array UInt8) = ([] : List UInt8).toArray from rfl, two_list]) (by rw [show (#[] : Array UInt8) = ([] : List UInt8).toArray from rfl, two_list, List.append_nil]; exact numB_all hW) (by rw [show (#[] : Array UInt8) = ([] : List UInt8).toArray from rfl, two_size]; simp; omega) (by omega)).mono ?_
        rintro e3 w3 ⟨rfl, hb3⟩
        go_wp2
        go_ret2
        exact ⟨ret_val (by rw [hrt.out, hW, List.append_nil]; rfl), ((Below_drewN _ (Below.refl _ _)).trans hb2).trans (hb3.mono hb2.size)⟩
      · cases hP : numB P
        · go_wp2_with fail
          refine (numeral_at ⟨W.toArray⟩ true hW _ (by show W.toArray.size ≤ _; simp; omega)).mono ?_
          rintro e2 w2 ⟨rfl, hb2⟩
          go_wp2_with fail
          refine (numeral_at ⟨P.toArray⟩ false hP _ (by show P.toArray.size ≤ _; simp; omega)).mono ?_
          rintro e3 w3 ⟨rfl, hb3⟩
          go_wp2
          go_ret2
          exact ⟨ret_val (by rw [hrt.out, hW, hP]; rfl), ((Below_drewN _ (Below.refl _ _)).trans hb2).trans (hb3.mono hb2.size)⟩
        · go_wp2_with fail
          refine (numeral_at ⟨W.toArray⟩ true hW _ (by show W.toArray.size ≤ _; simp; omega)).mono ?_
          rintro e2 w2 ⟨rfl, hb2⟩
          go_wp2_with fail
          refine (numeral_at ⟨P.toArray⟩ true hP _ (by show P.toArray.size ≤ _; simp; omega)).mono ?_
          rintro e3 w3 ⟨rfl, hb3⟩
          have hsum : ((⟨W.toArray⟩ : ByteArray).size : Int) + ((⟨P.toArray⟩ : ByteArray).size : Int) ≤ 9223372036854775807 := by
            show ((W.toArray.size : Nat) : Int) + ((P.toArray.size : Nat) : Int) ≤ _; simp; omega
          go_wp2_with fail
          refine (told_at true _ (val (W ++ P)) P.length _ rfl _ (by rw [two_list]) (by rw [two_list, allD_append, numB_all hW, numB_all hP]; rfl) (by rw [two_size]; omega) (by omega)).mono ?_
          rintro e4 w4 ⟨rfl, hb4⟩
          go_wp2
          go_ret2
          exact ⟨ret_val (by rw [hrt.out, hW, hP]; rfl), (((Below_drewN _ (Below.refl _ _)).trans hb2).trans (hb3.mono hb2.size)).trans (hb4.mono (Nat.le_trans hb2.size hb3.size))⟩
end Go.Proofs.YthecgifgjagmaaaGreatDoor.dec
