/- LexerPrints: what the law's call does. -/
import Derived.Test.YthpilhmfcbdeiaaDoorLexN
set_option linter.unusedVariables false
set_option linter.unusedSimpArgs false
namespace Go.Proofs.YthpilhmfcbdeiaaDoor
open Go.RowKit
theorem refSep_eq (t p : Tok) : refSep t p = (wideT p && wideT t) := by
  unfold refSep wideT
  rw [Bool.eq_iff_iff]; simp; omega
theorem print_eq (p : Option Tok) (l : List Tok) : refPrintFrom p l = printFrom ((p.map wideT).getD false) l := by
  induction l generalizing p with
  | nil => rfl
  | cons t r ih =>
    simp only [refPrintFrom, printFrom, ih]
    cases p with
    | none => simp
    | some p => simp [refSep_eq]
theorem print_low (p : Bool) (l : List Tok) : textSize l ≤ (printFrom p l).length := by
  induction l generalizing p with
  | nil => simp [textSize, printFrom]
  | cons t r ih =>
    have := ih (wideT t)
    have hs : t.text.data.toList.length = t.text.size := by rw [Array.length_toList]; rfl
    simp only [printFrom, List.length_append, textSize, List.map_cons, List.sum_cons, hs] at this ⊢
    omega
theorem textSize_take (l : List Tok) (i : Nat) (t : Tok) (h : l[i]? = some t) : textSize (l.take (i + 1)) = textSize (l.take i) + t.text.size := by
  rw [List.take_add_one, h]; simp [textSize]
theorem textSize_le (l : List Tok) (h : ∀ t ∈ l, t.text.size ≤ 100) : textSize l ≤ 100 * l.length := by
  induction l with
  | nil => simp [textSize]
  | cons x r ih =>
    have h1 := h x (List.mem_cons_self ..)
    have h2 := ih (fun t ht => h t (List.mem_cons_of_mem _ ht))
    simp only [textSize, List.map_cons, List.sum_cons, List.length_cons] at h2 ⊢
    omega
set_option maxHeartbeats 4000000 in
set_option maxRecDepth 100000 in
theorem law_any (A : Option Addr) (l : List Tok) (c : Nat) (w : World) (hr : Reads w A (toks l)) (hV : VarsW w) :
    Calls Tryd.prog 3 #[.slice A l.length c] w fun e w' => e = .returned (.bool true) ∧ Below w.heap.size w w' := by
  have HR := Lib.hid hr
  have HV := Lib.hid hV
  clear hr hV
  go_enter Tryd.func3, Tryd.ntmps3
  go_wp2_with fail
  refine (awake_any _ HV.out).mono ?_
  rintro e w1 ⟨rfl, hb1⟩
  have HB1 := Lib.hid hb1
  clear hb1
  by_cases hl : l.length ≤ 100
  · go_wp2_with fail
    go_loopg [3, 4] l.length (fun g v3 v4 wx => ∃ (i : Nat), v3 = .int .i64 (textSize (l.take i) : Nat) ∧ v4 = .int .i64 i ∧ Hid (i + g = l.length) ∧ Hid (Below w.heap.size w wx) ∧ Hid (∀ t ∈ l.take i, t.text.size ≤ 100))
    case atStart => exact ⟨0, rfl, rfl, Lib.hid (by omega), HB1, Lib.hid (by simp)⟩
    case round =>
      obtain ⟨i, rfl, rfl, HG, HB, HT⟩ := hrel
      have hts : textSize (l.take i) ≤ 10000 := by
        have h1 := textSize_le _ HT.out
        have h2 : (l.take i).length ≤ l.length := List.length_take_le' _ _
        omega
      by_cases hlt : i < l.length
      · obtain ⟨t, ht⟩ : ∃ t, l[i]? = some t := ⟨_, List.getElem?_eq_getElem hlt⟩
        obtain ⟨ad, rfl, hcell⟩ := HR.out (by intro h; have := congrArg List.length h; rw [toks_length] at this; simp at this; omega)
        obtain ⟨p0, p1, p2, p3⟩ := tok_below (reads_tok hcell i t ht) wr HB.out
        have HE := Lib.hid (textSize_take l i t ht)
        have HTT := Lib.hid ht
        clear hcell ht
        by_cases hz : t.text.size ≤ 100
        · go_wp2_with fail
          go_roundg (gk - 1)
          case measure => have := HG.out; omega
          case rel => exact ⟨i + 1, by rw [HE.out]; go_num, by go_num, Lib.hid (by have := HG.out; omega), HB, Lib.hid (by
              rw [List.take_add_one, HTT.out]
              intro x hx
              rcases List.mem_append.1 hx with h | h
              · exact HT.out x h
              · simp at h; subst h; exact hz)⟩
        · go_wp2_with fail
          go_ret
          exact ⟨rfl, HB.out⟩
      · obtain rfl : i = l.length := by have := HG.out; omega
        rw [List.take_length] at hts HT
        have HN : Hid (textSize (l.take l.length) = textSize l) := Lib.hid (by rw [List.take_length])
        have hs1 : textSize l ≤ (lexPrint l).length := print_low false l
        have hs2 : (lexPrint l).length ≤ textSize l + l.length := by have := printFrom_size false l; unfold lexPrint; omega
        have hpe : Hid (refPrintFrom none l = lexPrint l) := Lib.hid (print_eq none l)
        go_wp2_with fail
        refine (back_law A l c _ (HR.out.below HB.out) (by omega)).mono ?_
        rintro e w2 ⟨v2, rfl, ho2, hb2⟩
        obtain ⟨A2, c2, rfl⟩ := own_slice ho2
        have HR2 := Lib.hid (reads_own ho2)
        have HB2 := Lib.hid (HB.out.trans (hb2.mono HB.out.size))
        clear ho2 hb2
        go_wp2_with fail
        refine (print_any A2 l c2 _ HR2.out (by omega) (by omega)).mono ?_
        rintro e w3 ⟨rfl, hb3⟩
        have HB3 := Lib.hid (HB2.out.trans (hb3.mono HB2.out.size))
        clear hb3
        go_wp2_with fail
        refine (refPrint_any A l c _ (HR.out.below HB3.out) (by omega) (by omega)).mono ?_
        rintro e w4 ⟨rfl, hb4⟩
        rw [hpe.out]
        have hd1 : decide ((textSize l : Int) ≤ ((lexPrint l).length : Int)) = true := decide_eq_true (by omega)
        have hd2 : decide (((lexPrint l).length : Int) ≤ (textSize l : Int) + (l.length : Int)) = true := decide_eq_true (by omega)
        have hd3 : textSize l ≤ (lexPrint l).length := hs1
        have HB4 := Lib.hid (HB3.out.trans (hb4.mono HB3.out.size))
        clear hb4
        go_wp2_with fail
        go_ret
        exact ⟨rfl, HB4.out⟩
  · go_wp2_with fail
    refine (awake_any _ (HV.out.below HB1.out)).mono ?_
    rintro e w2 ⟨rfl, hb2⟩
    have HB2 := Lib.hid (HB1.out.trans (hb2.mono HB1.out.size))
    clear hb2
    go_wp2_with fail
    go_ret
    exact ⟨rfl, HB2.out⟩
end Go.Proofs.YthpilhmfcbdeiaaDoor
