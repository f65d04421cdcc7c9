/- The scanner's method 'between'. -/
import Derived.Test.YthpilhmfcbdeiaaDoorLexC
import Derived.Laws.EntriesVeiled
set_option linter.unusedVariables false
set_option linter.unusedSimpArgs false
namespace Go.Proofs.YthpilhmfcbdeiaaDoor
open Go.RowKit
/-- What a method of the scanner leaves. -/
def Left (B b : Nat) (s : Sc) (w : World) (e : Ending) (w' : World) : Prop := e = .returned (.tuple #[]) ∧ s.At B b w' ∧ But B b w w'
set_option maxHeartbeats 2000000 in
theorem between_any (B b : Nat) (s : Sc) (c : Int) (w : World) (hB : B ≤ w.heap.size) (h : s.At B b w) (hlen : s.out.length < 1000000000) (h0 : 0 ≤ s.line) (h1 : s.line < 1000000000) (hc : 0 ≤ c) :
    Calls Tryd.prog 15 #[.pointer (some ⟨b, 0, none⟩), .int .i32 c] w fun e w' => Left B b (s.between c) w e w' := by
  by_cases h10 : c = 10
  · subst h10
    exact (between_feed B b s w hB h hlen h0 h1).mono fun e w' hh => by
      have : s.between 10 = s.feed := by unfold Sc.between; rw [if_neg (by decide), if_neg (by decide), if_pos rfl]
      rw [this]; exact hh
  obtain ⟨st, out, txt, l, bd⟩ := s
  have H := Lib.hid h
  have HL := Lib.hid hlen
  have H10 := Lib.hid h10
  clear h hlen
  have t10 : (c == 10) = false := by simpa using h10
  clear h10
  cases hbk : hasRune blanks c
  case true =>
    have HF : Hid (Sc.between ⟨st, out, txt, l, bd⟩ c = ⟨st, out, txt, l, bd⟩) := Lib.hid (by unfold Sc.between; rw [if_pos hbk])
    have HBK := Lib.hid hbk
    clear hbk
    go_enter Tryd.func15, Tryd.ntmps15
    go_wp2_with fail
    refine (containsRune_any blanks blanks_ascii (by decide) _ hc _).mono ?_
    rintro e w1 ⟨rfl, hb1⟩
    rw [HBK.out]
    have HB := Lib.hid hb1
    clear hb1
    go_wp2_with fail
    go_end0
    rw [Left, HF.out]
    exact ⟨rfl, H.out.below HB.out, But.low hB HB.out⟩
  case false =>
  by_cases h35 : c = 35
  · have HF : Hid (Sc.between ⟨st, out, txt, l, bd⟩ c = ⟨.remark, out, txt, l, bd⟩) := Lib.hid (by unfold Sc.between; rw [if_neg (by simp [hbk]), if_pos h35])
    have t35 : (c == 35) = true := by simpa using h35
    have HBK := Lib.hid hbk
    clear hbk h35
    go_enter Tryd.func15, Tryd.ntmps15
    go_wp2_with fail
    refine (containsRune_any blanks blanks_ascii (by decide) _ hc _).mono ?_
    rintro e w1 ⟨rfl, hb1⟩
    rw [HBK.out]
    have HB := Lib.hid hb1
    obtain ⟨vo, vt, hb, hh, ho, ht⟩ := H.out.below hb1
    have HO := Lib.hid ho
    have HT := Lib.hid ht
    have hlt := lt_of hh
    have f0 := free_of hh 0
    have c0 := cell_of hh 0 _ rfl
    clear hb1 ho ht
    go_wp2_with fail
    go_end0
    rw [Left, HF.out]
    exact ⟨rfl, ⟨_, _, hb, hp_set hh 0 _, own_set HO.out _ (own_ne HO.out hh (by decide)), own_set HT.out _ (own_ne HT.out hh (by decide))⟩, (But.low hB HB.out).set _ _⟩
  have t35 : (c == 35) = false := by simpa using h35
  have H35 := Lib.hid h35
  have HBK := Lib.hid hbk
  clear h35 hbk
  cases hlet : isLetter c
  case true =>
    have HF : Hid (Sc.between ⟨st, out, txt, l, bd⟩ c = ⟨.word, out, [c], l, bd⟩) := Lib.hid (by unfold Sc.between; rw [if_neg (by simp [HBK.out]), if_neg H35.out, if_neg H10.out, if_pos hlet])
    have HLE := Lib.hid hlet
    clear hlet
    go_enter Tryd.func15, Tryd.ntmps15
    go_wp2_with fail
    refine (containsRune_any blanks blanks_ascii (by decide) _ hc _).mono ?_
    rintro e w1 ⟨rfl, hb1⟩
    rw [HBK.out]
    have HB := Lib.hid hb1
    obtain ⟨vo, vt, hb, hh, ho, ht⟩ := H.out.below hb1
    have HO := Lib.hid ho
    have HT := Lib.hid ht
    have hlt := lt_of hh
    have f0 := free_of hh 0
    have f2 := free_of hh 2
    have c0 := cell_of hh 0 _ rfl
    have c2 := cell_of hh 2 _ rfl
    clear hb1 ho ht
    go_wp2_with fail
    refine (letter_any _ _).mono ?_
    rintro e w2 ⟨rfl, hw2⟩
    rw [HLE.out]
    subst hw2
    go_wp2_with fail
    go_end0
    rw [Left, HF.out]
    exact ⟨rfl, ⟨_, _, hb, hp_old _ (hp_set (hp_set hh 2 _) 0 _), (own_set (own_set HO.out _ (own_ne HO.out hh (by decide))) _ (own_ne HO.out hh (by decide))).alloc _, own_lit #[.int .i32 c] (by simp) (Nat.le_trans hB HB.out.size) (by decide) rfl⟩,
      (((But.low hB HB.out).set _ _).set _ _).alloc (by simp; exact Nat.le_trans hB HB.out.size) _⟩
  case false =>
  have HLE := Lib.hid hlet
  clear hlet
  cases hdig : isDigit c || c == 45
  case true =>
    have HF : Hid (Sc.between ⟨st, out, txt, l, bd⟩ c = ⟨.number, out, [c], l, bd⟩) := Lib.hid (by unfold Sc.between; rw [if_neg (by simp [HBK.out]), if_neg H35.out, if_neg H10.out, if_neg (by simp [HLE.out]), if_pos hdig])
    have HD := Lib.hid hdig
    clear hdig
    go_enter Tryd.func15, Tryd.ntmps15
    go_wp2_with fail
    refine (containsRune_any blanks blanks_ascii (by decide) _ hc _).mono ?_
    rintro e w1 ⟨rfl, hb1⟩
    rw [HBK.out]
    have HB := Lib.hid hb1
    obtain ⟨vo, vt, hb, hh, ho, ht⟩ := H.out.below hb1
    have HO := Lib.hid ho
    have HT := Lib.hid ht
    have hlt := lt_of hh
    have f0 := free_of hh 0
    have f2 := free_of hh 2
    have c0 := cell_of hh 0 _ rfl
    have c2 := cell_of hh 2 _ rfl
    clear hb1 ho ht
    go_wp2_with fail
    refine (letter_any _ _).mono ?_
    rintro e w2 ⟨rfl, hw2⟩
    rw [HLE.out]
    subst hw2
    go_wp2_with fail
    refine (digit_any _ _).mono ?_
    rintro e w3 ⟨rfl, hw3⟩
    subst hw3
    have hd := HD.out
    cases hdd : isDigit c
    all_goals
      rw [hdd] at hd
      (try simp only [Bool.false_or] at hd)
      go_wp2_with fail
      go_end0
      rw [Left, HF.out]
      exact ⟨rfl, ⟨_, _, hb, hp_old _ (hp_set (hp_set hh 2 _) 0 _), (own_set (own_set HO.out _ (own_ne HO.out hh (by decide))) _ (own_ne HO.out hh (by decide))).alloc _, own_lit #[.int .i32 c] (by simp) (Nat.le_trans hB HB.out.size) (by decide) rfl⟩,
        (((But.low hB HB.out).set _ _).set _ _).alloc (by simp; exact Nat.le_trans hB HB.out.size) _⟩
  case false =>
  rw [Bool.or_eq_false_iff] at hdig
  obtain ⟨hd1, hd2⟩ := hdig
  have HD := Lib.hid hd1
  have HD2 := Lib.hid hd2
  clear hd1
  cases hmk : hasRune marks c
  all_goals
    have HMK := Lib.hid hmk
    clear hmk
    go_enter Tryd.func15, Tryd.ntmps15
    go_wp2_with fail
    refine (containsRune_any blanks blanks_ascii (by decide) _ hc _).mono ?_
    rintro e w1 ⟨rfl, hb1⟩
    rw [HBK.out]
    have HB := Lib.hid hb1
    clear hb1
    go_wp2_with fail
    refine (letter_any _ _).mono ?_
    rintro e w2 ⟨rfl, hw2⟩
    rw [HLE.out]
    subst hw2
    go_wp2_with fail
    refine (digit_any _ _).mono ?_
    rintro e w3 ⟨rfl, hw3⟩
    rw [HD.out]
    subst hw3
    go_wp2_with fail
    refine (containsRune_any marks marks_ascii (by decide) _ hc _).mono ?_
    rintro e w4 ⟨rfl, hb4⟩
    rw [HMK.out]
    have HB4 := Lib.hid hb4
    have H4 := Lib.hid ((H.out.below HB.out).below hb4)
    clear hb4
    go_wp2_with fail
  · have HF : Hid (Sc.between ⟨st, out, txt, l, bd⟩ c = ⟨st, out, txt, l, badOf bd l⟩) := Lib.hid (by unfold Sc.between; rw [if_neg (by simp [HBK.out]), if_neg H35.out, if_neg H10.out, if_neg (by simp [HLE.out]), if_neg (by simp [HD.out, HD2.out]), if_neg (by simp [HMK.out])])
    refine (fail_any B b st.f out txt l bd _ H4.out).mono ?_
    rintro e w5 ⟨rfl, hs5, hb5⟩
    have HS := Lib.hid hs5
    have HB5 := Lib.hid hb5
    clear hs5 hb5
    go_wp2_with fail
    go_end0
    rw [Left, HF.out]
    exact ⟨rfl, HS.out, ((But.low hB HB.out).trans (But.low (Nat.le_trans hB HB.out.size) HB4.out)).trans HB5.out⟩
  · have HF : Hid (Sc.between ⟨st, out, txt, l, bd⟩ c = ⟨st, out ++ [⟨3, Utf8.encode c, 0, l⟩], txt, l, bd⟩) := Lib.hid (by unfold Sc.between; rw [if_neg (by simp [HBK.out]), if_neg H35.out, if_neg H10.out, if_neg (by simp [HLE.out]), if_neg (by simp [HD.out, HD2.out]), if_pos HMK.out]; rfl)
    refine (emit_any B b st.f out txt l bd 3 _ _ _ _ (Nat.le_trans hB (Nat.le_trans HB.out.size HB4.out.size)) H4.out HL.out).mono ?_
    rintro e w5 ⟨rfl, hs5, hb5⟩
    have HS := Lib.hid hs5
    have HB5 := Lib.hid hb5
    clear hs5 hb5
    go_wp2_with fail
    go_end0
    rw [Left, HF.out]
    exact ⟨rfl, HS.out, ((But.low hB HB.out).trans (But.low (Nat.le_trans hB HB.out.size) HB4.out)).trans HB5.out⟩
end Go.Proofs.YthpilhmfcbdeiaaDoor
