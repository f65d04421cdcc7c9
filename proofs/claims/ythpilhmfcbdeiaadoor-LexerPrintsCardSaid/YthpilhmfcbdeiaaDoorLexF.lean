/- The scanner's method 'number'. -/
import Derived.Test.YthpilhmfcbdeiaaDoorLexE
import Derived.WideLaws
import Derived.Lib.SmallJoins
import Derived.Lib.ParseIntBTie
import Derived.Sort.Grow
set_option linter.unusedVariables false
set_option linter.unusedSimpArgs false
namespace Go.Proofs.YthpilhmfcbdeiaaDoor
open Go.RowKit Go.Sort
/-- The number that a text spells; is it one of 64 bits? -/
def numOf (t : ByteArray) : Int × Bool := match Lib.parseIntB 64 t.data.toList with | .ok v => (v, true) | .range => (Lib.intSat 64 t.data.toList, false) | _ => (0, false)
def badNum (t : ByteArray) (c : Int) : Bool := !(numOf t).2 || !(Lib.itoa (numOf t).1 == t.data.toList) || isLetter c
def Sc.numTok (s : Sc) : Sc := { s.emit 2 (encAll s.txt) (numOf (encAll s.txt)).1 with st := .between }
def Sc.number (s : Sc) (c : Int) : Sc :=
  if isDigit c then { s with txt := s.txt ++ [c] }
  else ((if badNum (encAll s.txt) c then { s with bad := badOf s.bad s.line } else s).numTok).between c
theorem below_growN (w : World) (k : Nat) (os : Array Obj) : Below w.heap.size w (grow (w.drewN k) os) :=
  ⟨rfl, rfl, rfl, by simp [grow, World.drewN], fun i hi => by simp [grow, World.drewN, Array.getElem?_append, hi]⟩
theorem parse_calls (B b : Nat) (t : ByteArray) (ht : t.size ≤ 281474976710656) (w : World) (hV : Vars B b w) :
    Calls Tryd.prog 28 #[.string t, .int .i64 10, .int .i64 64] w fun e w' => ∃ er : Value, e = .returned (.tuple #[.int .i64 (numOf t).1, er]) ∧ (if (numOf t).2 then er = .nilIface else ∃ u x, er = .iface u x) ∧ Below w.heap.size w w' := by
  unfold numOf
  rcases h : Lib.parseIntB 64 t.data.toList with v | _ | _
  · refine (Tryd.strconv_ParseInt_10_at64_ok t (by omega) v h w).mono fun e w' ⟨he, hw⟩ => ⟨_, he, rfl, ?_⟩
    rcases hw with rfl | ⟨s, rfl⟩
    · exact Below.refl _ _
    · exact Go.Joins.below_bytesWorld _ _ _ _ (Nat.le_refl _)
  · obtain ⟨tp, p, hp⟩ := hV.syn
    exact (Tryd.strconv_ParseInt_10_at64_bad_var t ht h tp p w hp).mono fun e w' ⟨N, he, _, _, hb⟩ => ⟨_, he, ⟨_, _, rfl⟩, hb⟩
  · obtain ⟨tp, p, hp⟩ := hV.rng
    exact (Tryd.strconv_ParseInt_10_at64_range_var t ht h tp p w hp).mono fun e w' ⟨N, he, _, _, hb⟩ => ⟨_, he, ⟨_, _, rfl⟩, hb⟩
theorem format_calls (B b : Nat) (n : Int) (h0 : -9223372036854775808 ≤ n) (h1 : n ≤ 9223372036854775807) (w : World) (hV : Vars B b w) :
    Calls Tryd.prog 29 #[.int .i64 n, .int .i64 10] w fun e w' => e = .returned (.string ⟨(Lib.itoa n).toArray⟩) ∧ Below w.heap.size w w' :=
  (Tryd.strconv_FormatInt_10 n h0 h1 w hV.tab).mono fun e w' ⟨he, k, os, hw⟩ => ⟨he, hw ▸ below_growN w k os⟩
theorem numOf_bounds (t : ByteArray) (h : (numOf t).2 = true) : -9223372036854775808 ≤ (numOf t).1 ∧ (numOf t).1 ≤ 9223372036854775807 := by
  unfold numOf at h ⊢
  rcases e : Lib.parseIntB 64 t.data.toList with v | _ | _
  · have := Lib.parseIntB_bounds e
    simp at this ⊢
    omega
  · rw [e] at h; simp at h
  · rw [e] at h; simp at h
/-- The last part: the token, then 'between'. -/
theorem itoaEq {v : Int} {t : ByteArray} : (Lib.itoa v == t.toList) = (Lib.itoa v == t.data.toList) := by
  rw [ByteArray.toList_eq]
set_option maxHeartbeats 4000000 in
set_option maxRecDepth 100000 in
theorem number_bad (B b : Nat) (s : Sc) (c : Int) (w : World) (hV : Vars B b w) (hB : B ≤ w.heap.size) (h : s.At B b w) (hlen : s.out.length < 900000000) (h0 : 0 ≤ s.line) (h1 : s.line < 1000000000) (hc : 0 ≤ c)
    (hd : isDigit c = false) (hsz : (encAll s.txt).size < 1000000000) :
    Calls Tryd.prog 24 #[.pointer (some ⟨b, 0, none⟩), .int .i32 c] w fun e w' => Left B b (s.number c) w e w' := by
  obtain ⟨st, out, txt, l, bd⟩ := s
  have H := Lib.hid h
  obtain ⟨vo, vt, hb, hh, ho, ht⟩ := h
  have HT := Lib.hid ht
  have hlt := lt_of hh
  have c2 := cell_of hh 2 _ rfl
  have HL := Lib.hid hlen
  have HD := Lib.hid hd
  have HZ := Lib.hid hsz
  have HV := Lib.hid hV
  have hcv := run_convert_runes (P := Tryd.prog) w _ _ _ Tryd.underlying50 Tryd.underlying21 Tryd.underlying9 HT.out
  clear ho ht hd hV hlen hsz
  obtain ⟨t, ht⟩ : ∃ t, encAll txt = t := ⟨_, rfl⟩
  rw [ht] at hcv
  cases hn : numOf t with
  | mk v ok =>
  have HF : Hid (Sc.number ⟨st, out, txt, l, bd⟩ c = Sc.between ⟨.between, out ++ [⟨2, t, v, l⟩], txt, l, if badNum t c then badOf bd l else bd⟩ c) := Lib.hid (by
    unfold Sc.number; rw [if_neg (by simp [HD.out]), ht]
    unfold Sc.numTok
    cases badNum t c <;> simp [Sc.emit, ht, hn])
  have HP : Hid (∀ w, Vars B b w → Calls Tryd.prog 28 #[.string t, .int .i64 10, .int .i64 64] w fun e w' => ∃ er : Value, e = .returned (.tuple #[.int .i64 v, er]) ∧ (if ok then er = .nilIface else ∃ u x, er = .iface u x) ∧ Below w.heap.size w w') := Lib.hid (fun w hV => by
    have := parse_calls B b t (by have := HZ.out; rw [← ht]; simp at this ⊢; omega) w hV
    rw [hn] at this; exact this)
  have HBD : Hid (ok = true → -9223372036854775808 ≤ v ∧ v ≤ 9223372036854775807) := Lib.hid (fun h => by have := numOf_bounds t (by rw [hn]; exact h); rw [hn] at this; exact this)
  have HQ : Hid (badNum t c = (!ok || !(Lib.itoa v == t.data.toList) || isLetter c)) := Lib.hid (by unfold badNum; rw [hn])
  have HTT := Lib.hid ht
  have HN := Lib.hid hn
  clear ht hn
  go_enter Tryd.func24, Tryd.ntmps24
  go_wp2_with fail
  refine (digit_any _ _).mono ?_
  rintro e w1 ⟨rfl, hw1⟩
  obtain rfl : w = w1 := hw1.symm
  rw [HD.out]
  go_wp2_with fail
  refine (HP.out _ HV.out).mono ?_
  rintro e w1 ⟨er, rfl, her, hb1⟩
  have HB1 := Lib.hid hb1
  clear hb1
  go_wp2_with fail
  have hV1 := HV.out.but (But.low hB HB1.out)
  have HV1 := Lib.hid hV1
  have H1 := Lib.hid (H.out.below HB1.out)
  clear hV1
  have hnn : ∀ (w : World) (u : TypeId) (x : Value), (binOp .neq 43 (.iface u x) .nilIface).run Tryd.prog w = .ok (.bool true) w := fun w u x => run_neq_held_nil w 43 u x (by kernel_rfl)
  have hnil : ∀ w : World, (binOp .neq 43 .nilIface .nilIface).run Tryd.prog w = .ok (.bool false) w := fun w => run_neq_nil_nil w 43 (by kernel_rfl)
  have hgu : ∀ (w : World) (x : Operand) (y : Value), (eqGuard .neq 43 x (.const y) .nilIface .nilIface).run Tryd.prog w = .ok () w := fun w x y => by simp [eqGuard]
  have HLO : Hid (But B b w w1) := Lib.hid (But.low hB HB1.out)
  cases ok
  obtain ⟨u, x, rfl⟩ := her
  have HBN : Hid ((if badNum t c then badOf bd l else bd) = badOf bd l) := Lib.hid (by rw [HQ.out]; rfl)
  go_wp2_with fail
  refine (fail_any B b st.f out txt l bd _ H1.out).mono ?_
  rintro e w5 ⟨rfl, hs5, hb5⟩
  have HS := Lib.hid hs5
  have HB5 := Lib.hid (HLO.out.trans hb5)
  clear hs5 hb5
  go_wp2_with fail
  rotate_left
  obtain rfl : er = .nilIface := her
  go_wp2_with fail
  simp only [hgu]
  simp only [hnil]
  go_wp2_with fail
  refine (format_calls B b v (HBD.out (by first | rfl | trivial)).1 (HBD.out (by first | rfl | trivial)).2 _ HV1.out).mono ?_
  rintro e w2 ⟨rfl, hb2⟩
  have H2 := Lib.hid (H1.out.below hb2)
  have HLO2 := Lib.hid (HLO.out.trans (But.low (Nat.le_trans hB HB1.out.size) hb2))
  clear hb2
  have hie := itoaEq (v := v) (t := t)
  cases hit : (Lib.itoa v == t.data.toList)
  rw [hit] at hie
  have HBN : Hid ((if badNum t c then badOf bd l else bd) = badOf bd l) := Lib.hid (by rw [HQ.out, hit]; rfl)
  clear hit
  go_wp2_with fail
  refine (fail_any B b st.f out txt l bd _ H2.out).mono ?_
  rintro e w5 ⟨rfl, hs5, hb5⟩
  have HS := Lib.hid hs5
  have HB5 := Lib.hid (HLO2.out.trans hb5)
  clear hs5 hb5
  go_wp2_with fail
  rotate_left
  rw [hit] at hie
  have HIT := Lib.hid hit
  clear hit
  go_wp2_with fail
  refine (letter_any _ _).mono ?_
  rintro e w3 ⟨rfl, hw3⟩
  obtain rfl : w2 = w3 := hw3.symm
  cases hlet : isLetter c
  have HBN : Hid ((if badNum t c then badOf bd l else bd) = bd) := Lib.hid (by rw [HQ.out, HIT.out, hlet]; rfl)
  go_wp2_with fail
  have HS := Lib.hid H2.out
  have HB5 := Lib.hid HLO2.out
  rotate_left
  have HBN : Hid ((if badNum t c then badOf bd l else bd) = badOf bd l) := Lib.hid (by rw [HQ.out, HIT.out, hlet]; rfl)
  go_wp2_with fail
  refine (fail_any B b st.f out txt l bd _ H2.out).mono ?_
  rintro e w5 ⟨rfl, hs5, hb5⟩
  have HS := Lib.hid hs5
  have HB5 := Lib.hid (HLO2.out.trans hb5)
  clear hs5 hb5
  go_wp2_with fail
  all_goals
    refine (emit_any B b st.f out txt l _ 2 _ _ _ _ (Nat.le_trans hB HB5.out.size) HS.out (by have := HL.out; omega)).mono ?_
    rintro e w6 ⟨rfl, hs6, hb6⟩
    have HB6 := Lib.hid (HB5.out.trans hb6)
    obtain ⟨vo6, vt6, _, hh6, ho6, ht6⟩ := hs6
    have HO6 := Lib.hid ho6
    have HT6 := Lib.hid ht6
    have f06 := free_of hh6 0
    have c06 := cell_of hh6 0 _ rfl
    clear hb6 ho6 ht6
    go_wp2_with fail
    refine (between_any B b ⟨.between, out ++ [⟨2, t, v, l⟩], txt, l, _⟩ c _ (by simpa using Nat.le_trans hB HB6.out.size) ⟨_, _, hb, hp_set hh6 0 _, own_set HO6.out _ (own_ne HO6.out hh6 (by decide)), own_set HT6.out _ (own_ne HT6.out hh6 (by decide))⟩ (by have := HL.out; simp; omega) h0 h1 hc).mono ?_
    rintro e w7 ⟨rfl, hs, hb7⟩
    have HS7 := Lib.hid hs
    have HB7 := Lib.hid hb7
    clear hs hb7
    go_wp2_with fail
    go_end0
    rw [Left, HF.out, HBN.out]
    exact ⟨rfl, HS7.out, (HB6.out.set _ _).trans HB7.out⟩
set_option maxHeartbeats 2000000 in
theorem number_digit (B b : Nat) (s : Sc) (c : Int) (w : World) (hB : B ≤ w.heap.size) (h : s.At B b w) (ht0 : s.txt.length < 900000000) (hd : isDigit c = true) :
    Calls Tryd.prog 24 #[.pointer (some ⟨b, 0, none⟩), .int .i32 c] w fun e w' => Left B b (s.number c) w e w' := by
  obtain ⟨st, out, txt, l, bd⟩ := s
  obtain ⟨i0, hi, hz0, hz1, hz2⟩ := info_parts infoRune
  obtain ⟨vo, vt, hb, hh, ho, ht⟩ := h
  have HO := Lib.hid ho
  have HT := Lib.hid ht
  have hlt := lt_of hh
  have f2 := free_of hh 2
  have c2 := cell_of hh 2 _ rfl
  have HF : Hid (Sc.number ⟨st, out, txt, l, bd⟩ c = ⟨st, out, txt ++ [c], l, bd⟩) := Lib.hid (by unfold Sc.number; rw [if_pos hd])
  have HD := Lib.hid hd
  clear ho ht hd
  go_enter Tryd.func24, Tryd.ntmps24
  go_wp2_with fail
  refine (digit_any _ _).mono ?_
  rintro e w1 ⟨rfl, hw1⟩
  obtain rfl : w = w1 := hw1.symm
  rw [HD.out]
  go_wp2_with (at_builtin; refine wpList_append_lies _ rfl _ _ _ rfl B 21 i0 _ 1 4 Tryd.underlying50 hi hz0 hz1 hz2 rfl (by omega) vt _ _ (by rfl) (HT.out.alloc _) ⟨w.heap.size, 0, none⟩ 1 1 [.int .i32 c] (by rfl) (by rfl) (World.news_of_block (hp_new w _ rfl)) (by simp [Value.oneCell']) (by omega) (by unfold maxLen; omega) (by omega) (by simp; omega) (w.heap.size + 1) (by simp) ?_; intro gg cap w3 hown hgrow hat hlt1; have hh3 := hp_grown hgrow (hp_old _ hh) (own_ne HT.out hh (by decide)); have f23 := free_of hh3 2; have c23 := cell_of hh3 2 _ rfl; have HB3 := Lib.hid (But.own ((But.refl B b w).alloc hB _) hgrow (by simp; omega) (HT.out.alloc _)); have HO3 := Lib.hid ((HO.out.alloc (.cells #[.int .i32 c] 21)).kept hgrow (own_ne2 HO.out HT.out (by decide))); have HW := Lib.hid hown; clear hown hgrow hat)
  go_end0
  rw [Left, HF.out]
  exact ⟨rfl, ⟨_, _, hb, hp_set hh3 2 _, own_set HO3.out _ (own_ne HO3.out hh3 (by decide)), own_set (by simpa using HW.out) _ (own_ne HW.out hh3 (by decide))⟩, HB3.out.set _ _⟩
theorem number_any (B b : Nat) (s : Sc) (c : Int) (w : World) (hV : Vars B b w) (hB : B ≤ w.heap.size) (h : s.At B b w) (hlen : s.out.length < 900000000) (ht0 : s.txt.length < 900000000) (h0 : 0 ≤ s.line) (h1 : s.line < 1000000000) (hc : 0 ≤ c)
    (hsz : (encAll s.txt).size < 1000000000) :
    Calls Tryd.prog 24 #[.pointer (some ⟨b, 0, none⟩), .int .i32 c] w fun e w' => Left B b (s.number c) w e w' := by
  cases hd : isDigit c
  · exact number_bad B b s c w hV hB h hlen h0 h1 hc hd hsz
  · exact number_digit B b s c w hB h ht0 hd
end Go.Proofs.YthpilhmfcbdeiaaDoor
