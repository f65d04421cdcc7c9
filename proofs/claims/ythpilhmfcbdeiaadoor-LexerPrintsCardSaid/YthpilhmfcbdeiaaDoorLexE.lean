/- The scanner's methods 'remark', 'word' and 'number'. -/
import Derived.Test.YthpilhmfcbdeiaaDoorLexD
set_option linter.unusedVariables false
set_option linter.unusedSimpArgs false
namespace Go.Proofs.YthpilhmfcbdeiaaDoor
open Go.RowKit
theorem var_but {P : Program} {B b g : Nat} {w w' : World} {name : String} {cs : Array Value} (hg : P.globalNamed name = some g) (h : w.var? P name = some cs) (hb : But B b w w') (hlt : g < B ∧ g ≠ b) : w'.var? P name = some cs := by
  unfold World.var? at h ⊢
  rw [hg] at h ⊢
  simp only [Option.bind_some] at h ⊢
  rw [hb.block g hlt.1 hlt.2]; exact h
/-- What the library's number texts lean on. -/
structure Vars (B b : Nat) (w : World) : Prop where
  tab : Lib.TabIs Tryd.prog w "internal/strconv.uint64pow10" .u64 Lib.pow10Tab
  syn : ∃ tp p, w.var? Tryd.prog "strconv.ErrSyntax" = some #[.iface tp p]
  rng : ∃ tp p, w.var? Tryd.prog "strconv.ErrRange" = some #[.iface tp p]
  big : (3 < B ∧ 3 ≠ b) ∧ (1 < B ∧ 1 ≠ b) ∧ (2 < B ∧ 2 ≠ b)
theorem Vars.but {B b : Nat} {w w' : World} (h : Vars B b w) (hb : But B b w w') : Vars B b w' where
  tab := var_but (g := 3) (by kernel_rfl) h.tab hb h.big.1
  syn := by obtain ⟨tp, p, e⟩ := h.syn; exact ⟨tp, p, var_but (g := 1) (by kernel_rfl) e hb h.big.2.1⟩
  rng := by obtain ⟨tp, p, e⟩ := h.rng; exact ⟨tp, p, var_but (g := 2) (by kernel_rfl) e hb h.big.2.2⟩
  big := h.big
def Sc.remark (s : Sc) (c : Int) : Sc := if c = 10 then { s with st := .between : Sc }.between c else s
def Sc.word (s : Sc) (c : Int) : Sc := if isLetter c || isDigit c then { s with txt := s.txt ++ [c] } else { s.emit 1 (encAll s.txt) 0 with st := .between : Sc }.between c
theorem remark_any (B b : Nat) (s : Sc) (c : Int) (w : World) (hB : B ≤ w.heap.size) (h : s.At B b w) (hlen : s.out.length < 1000000000) (h0 : 0 ≤ s.line) (h1 : s.line < 1000000000) (hc : 0 ≤ c) :
    Calls Tryd.prog 19 #[.pointer (some ⟨b, 0, none⟩), .int .i32 c] w fun e w' => Left B b (s.remark c) w e w' := by
  obtain ⟨st, out, txt, l, bd⟩ := s
  obtain ⟨vo, vt, hb, hh, ho, ht⟩ := h
  have HO := Lib.hid ho
  have HT := Lib.hid ht
  have hlt := lt_of hh
  have f0 := free_of hh 0
  have c0 := cell_of hh 0 _ rfl
  clear ho ht
  by_cases h10 : c = 10
  · have HF : Hid (Sc.remark ⟨st, out, txt, l, bd⟩ c = Sc.between ⟨.between, out, txt, l, bd⟩ c) := Lib.hid (by unfold Sc.remark; rw [if_pos h10])
    have t10 : (c == 10) = true := by simpa using h10
    have H10 := Lib.hid h10
    have HL := Lib.hid hlen
    clear h10 hlen
    go_enter Tryd.func19, Tryd.ntmps19
    go_wp2_with fail
    refine (between_any B b ⟨.between, out, txt, l, bd⟩ c _ (by simpa using hB) ⟨_, _, hb, hp_set hh 0 _, own_set HO.out _ (own_ne HO.out hh (by decide)), own_set HT.out _ (own_ne HT.out hh (by decide))⟩ HL.out h0 h1 hc).mono ?_
    rintro e w1 ⟨rfl, hs, hb1⟩
    have HS := Lib.hid hs
    have HB := Lib.hid hb1
    clear hs hb1
    go_wp2_with fail
    go_end0
    rw [Left, HF.out]
    exact ⟨rfl, HS.out, ((But.refl B b w).set _ _).trans HB.out⟩
  · have HF : Hid (Sc.remark ⟨st, out, txt, l, bd⟩ c = ⟨st, out, txt, l, bd⟩) := Lib.hid (by unfold Sc.remark; rw [if_neg h10])
    have t10 : (c == 10) = false := by simpa using h10
    clear h10
    go_enter Tryd.func19, Tryd.ntmps19
    go_wp2_with fail
    go_end0
    rw [Left, HF.out]
    exact ⟨rfl, ⟨_, _, hb, hh, HO.out, HT.out⟩, But.refl B b w⟩
set_option maxHeartbeats 2000000 in
theorem word_any (B b : Nat) (s : Sc) (c : Int) (w : World) (hB : B ≤ w.heap.size) (h : s.At B b w) (hlen : s.out.length < 900000000) (ht0 : s.txt.length < 900000000) (h0 : 0 ≤ s.line) (h1 : s.line < 1000000000) (hc : 0 ≤ c) :
    Calls Tryd.prog 22 #[.pointer (some ⟨b, 0, none⟩), .int .i32 c] w fun e w' => Left B b (s.word c) w e w' := by
  obtain ⟨st, out, txt, l, bd⟩ := s
  have H := Lib.hid h
  obtain ⟨i0, hi, hz0, hz1, hz2⟩ := info_parts infoRune
  obtain ⟨vo, vt, hb, hh, ho, ht⟩ := h
  have HO := Lib.hid ho
  have HT := Lib.hid ht
  have hlt := lt_of hh
  have f0 := free_of hh 0
  have f2 := free_of hh 2
  have c0 := cell_of hh 0 _ rfl
  have c2 := cell_of hh 2 _ rfl
  clear ho ht
  cases hld : isLetter c || isDigit c
  · rw [Bool.or_eq_false_iff] at hld
    obtain ⟨hl1, hd1⟩ := hld
    have HF : Hid (Sc.word ⟨st, out, txt, l, bd⟩ c = Sc.between ⟨.between, out ++ [⟨1, encAll txt, 0, l⟩], txt, l, bd⟩ c) := Lib.hid (by unfold Sc.word; rw [if_neg (by simp [hl1, hd1])]; rfl)
    have H1 := Lib.hid hl1
    have H2 := Lib.hid hd1
    have HL := Lib.hid hlen
    have hcv := run_convert_runes (P := Tryd.prog) w _ _ _ Tryd.underlying50 Tryd.underlying21 Tryd.underlying9 HT.out
    clear hl1 hd1 hlen
    go_enter Tryd.func22, Tryd.ntmps22
    go_wp2_with fail
    refine (letter_any _ _).mono ?_
    rintro e w1 ⟨rfl, hw1⟩
    rw [H1.out]
    subst hw1
    go_wp2_with fail
    refine (digit_any _ _).mono ?_
    rintro e w2 ⟨rfl, hw2⟩
    rw [H2.out]
    subst hw2
    go_wp2_with fail
    refine (emit_any B b st.f out txt l bd 1 _ _ _ _ hB H.out (by have := HL.out; omega)).mono ?_
    rintro e w3 ⟨rfl, hs3, hb3⟩
    have HB3 := Lib.hid hb3
    obtain ⟨vo3, vt3, _, hh3, ho3, ht3⟩ := hs3
    have HO3 := Lib.hid ho3
    have HT3 := Lib.hid ht3
    have hlt3 := lt_of hh3
    have f03 := free_of hh3 0
    have c03 := cell_of hh3 0 _ rfl
    clear hb3 ho3 ht3
    go_wp2_with fail
    refine (between_any B b ⟨.between, out ++ [⟨1, encAll txt, 0, l⟩], txt, l, bd⟩ c _ (by simpa using Nat.le_trans hB HB3.out.size) ⟨_, _, hb, hp_set hh3 0 _, own_set HO3.out _ (own_ne HO3.out hh3 (by decide)), own_set HT3.out _ (own_ne HT3.out hh3 (by decide))⟩ (by have := HL.out; simp; omega) h0 h1 hc).mono ?_
    rintro e w4 ⟨rfl, hs, hb4⟩
    have HS := Lib.hid hs
    have HB4 := Lib.hid hb4
    clear hs hb4
    go_wp2_with fail
    go_end0
    rw [Left, HF.out]
    exact ⟨rfl, HS.out, (HB3.out.set _ _).trans HB4.out⟩
  · have HF : Hid (Sc.word ⟨st, out, txt, l, bd⟩ c = ⟨st, out, txt ++ [c], l, bd⟩) := Lib.hid (by unfold Sc.word; rw [if_pos hld])
    have HLD := Lib.hid hld
    clear hld
    go_enter Tryd.func22, Tryd.ntmps22
    go_wp2_with fail
    refine (letter_any _ _).mono ?_
    rintro e w1 ⟨rfl, hw1⟩
    obtain rfl : w = w1 := hw1.symm
    have hld := HLD.out
    cases hl1 : isLetter c
    rotate_left
    go_wp2_with (at_builtin; refine wpList_append_lies _ rfl _ _ _ rfl B 21 i0 _ 1 4 Tryd.underlying50 hi hz0 hz1 hz2 rfl (by omega) vt _ _ (by rfl) (HT.out.alloc _) ⟨w.heap.size, 0, none⟩ 1 1 [.int .i32 c] (by rfl) (by rfl) (World.news_of_block (hp_new w _ rfl)) (by simp [Value.oneCell']) (by omega) (by unfold maxLen; omega) (by omega) (by simp; omega) (w.heap.size + 1) (by simp) ?_; intro gg cap w3 hown hgrow hat hlt1; have hh3 := hp_grown hgrow (hp_old _ hh) (own_ne HT.out hh (by decide)); have f23 := free_of hh3 2; have c23 := cell_of hh3 2 _ rfl; have HB3 := Lib.hid (But.own ((But.refl B b w).alloc hB _) hgrow (by simp; omega) (HT.out.alloc _)); have HO3 := Lib.hid ((HO.out.alloc (.cells #[.int .i32 c] 21)).kept hgrow (own_ne2 HO.out HT.out (by decide))); have HW := Lib.hid hown; clear hown hgrow hat)
    rotate_left
    rw [hl1, Bool.false_or] at hld
    go_wp2_with fail
    refine (digit_any _ _).mono ?_
    rintro e w2 ⟨rfl, hw2⟩
    rw [hld]
    obtain rfl : w = w2 := hw2.symm
    go_wp2_with (at_builtin; refine wpList_append_lies _ rfl _ _ _ rfl B 21 i0 _ 1 4 Tryd.underlying50 hi hz0 hz1 hz2 rfl (by omega) vt _ _ (by rfl) (HT.out.alloc _) ⟨w.heap.size, 0, none⟩ 1 1 [.int .i32 c] (by rfl) (by rfl) (World.news_of_block (hp_new w _ rfl)) (by simp [Value.oneCell']) (by omega) (by unfold maxLen; omega) (by omega) (by simp; omega) (w.heap.size + 1) (by simp) ?_; intro gg cap w3 hown hgrow hat hlt1; have hh3 := hp_grown hgrow (hp_old _ hh) (own_ne HT.out hh (by decide)); have f23 := free_of hh3 2; have c23 := cell_of hh3 2 _ rfl; have HB3 := Lib.hid (But.own ((But.refl B b w).alloc hB _) hgrow (by simp; omega) (HT.out.alloc _)); have HO3 := Lib.hid ((HO.out.alloc (.cells #[.int .i32 c] 21)).kept hgrow (own_ne2 HO.out HT.out (by decide))); have HW := Lib.hid hown; clear hown hgrow hat)
    all_goals
      go_end0
      rw [Left, HF.out]
      exact ⟨rfl, ⟨_, _, hb, hp_set hh3 2 _, own_set HO3.out _ (own_ne HO3.out hh3 (by decide)), own_set (by simpa using HW.out) _ (own_ne HW.out hh3 (by decide))⟩, HB3.out.set _ _⟩
end Go.Proofs.YthpilhmfcbdeiaaDoor
