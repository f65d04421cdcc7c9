/- Layer 26's reference: Similar; the law's same. -/
import Derived.Test.YthpilhmfcbdeiaaDoorLexL
set_option linter.unusedVariables false
set_option linter.unusedSimpArgs false
namespace Go.Proofs.YthpilhmfcbdeiaaDoor
open Go.RowKit
def simTok (a b : Tok) : Bool := a.kind == b.kind && a.text.toList == b.text.toList && a.num == b.num
def allTok (f : Tok → Tok → Bool) : List Tok → List Tok → Bool
  | [], [] => true
  | a :: r, b :: s => f a b && allTok f r s
  | _, _ => false
theorem allTok_len (f : Tok → Tok → Bool) : ∀ (a b : List Tok), a.length ≠ b.length → allTok f a b = false
  | [], [], h => absurd rfl h
  | [], _ :: _, _ => rfl
  | _ :: _, [], _ => rfl
  | a :: r, b :: s, h => by
    show (f a b && allTok f r s) = false
    rw [allTok_len f r s (by simpa using h), Bool.and_false]
theorem drop_at {l : List Tok} {i : Nat} (h : i < l.length) {t : Tok} (ht : l[i]? = some t) : l.drop i = t :: l.drop (i + 1) := by
  rw [List.drop_eq_getElem_cons h]
  rw [List.getElem?_eq_getElem h] at ht
  rw [Option.some.inj ht]
theorem drewN_of {w w1 : World} {n m : Nat} (h : w1 = w.drewN n) : w1.drewN m = w.drewN (n + m) := by rw [h, World.drewN_drewN]
set_option maxHeartbeats 4000000 in
set_option maxRecDepth 100000 in
theorem similar_any (A1 A2 : Option Addr) (l m : List Tok) (c1 c2 : Nat) (w : World) (hr1 : Reads w A1 (toks l)) (hr2 : Reads w A2 (toks m)) (hl : l.length < 1000000000) (hm : m.length < 1000000000) :
    Calls Tryd.prog 16 #[.slice A1 l.length c1, .slice A2 m.length c2] w fun e w' => e = .returned (.bool (allTok simTok l m)) ∧ Below w.heap.size w w' := by
  have HR1 := Lib.hid hr1
  have HR2 := Lib.hid hr2
  clear hr1 hr2
  by_cases hlm : l.length = m.length
  · have HLM := Lib.hid hlm
    have hlm2 : ((l.length : Int) != (m.length : Int)) = false := by rw [bne_eq_false_iff_eq]; omega
    clear hlm
    go_enter Tryd.func16, Tryd.ntmps16
    go_wp2_with fail
    go_loopg [5] l.length (fun g v5 wx => ∃ (i : Nat), v5 = .int .i64 i ∧ Hid (i + g = l.length) ∧ Hid (Below w.heap.size w wx) ∧ Hid (allTok simTok l m = allTok simTok (l.drop i) (m.drop i)))
    case atStart => exact ⟨0, rfl, Lib.hid (by omega), Lib.hid (Below.refl _ w), Lib.hid rfl⟩
    case round =>
      obtain ⟨i, rfl, HG, HB, HE⟩ := hrel
      by_cases hlt : i < l.length
      · have hlt2 : i < m.length := by have := HLM.out; omega
        obtain ⟨t, ht⟩ : ∃ t, l[i]? = some t := ⟨_, List.getElem?_eq_getElem hlt⟩
        obtain ⟨u, hu⟩ : ∃ t, m[i]? = some t := ⟨_, List.getElem?_eq_getElem hlt2⟩
        obtain ⟨ad1, rfl, hcell1⟩ := HR1.out (by intro h; have := congrArg List.length h; rw [toks_length] at this; simp at this; omega)
        obtain ⟨ad2, rfl, hcell2⟩ := HR2.out (by intro h; have := congrArg List.length h; rw [toks_length] at this; simp at this; omega)
        obtain ⟨p0, p1, p2, p3⟩ := tok_below (reads_tok hcell1 i t ht) wr HB.out
        obtain ⟨q0, q1, q2, q3⟩ := tok_below (reads_tok hcell2 i u hu) wr HB.out
        have HE1 : Hid (allTok simTok l m = (simTok t u && allTok simTok (l.drop (i + 1)) (m.drop (i + 1)))) := Lib.hid (by rw [HE.out, drop_at hlt ht, drop_at hlt2 hu]; rfl)
        have i1 : (0 : Int) ≤ (i : Int) := by omega
        have i2 : (i : Int) < (l.length : Int) := by omega
        have i3 : (i : Int) < (m.length : Int) := by omega
        clear hcell1 hcell2 ht hu
        by_cases e1 : t.kind = u.kind
        · have t1 : (t.kind != u.kind) = false := by rw [bne_eq_false_iff_eq]; exact e1
          have E1 := Lib.hid e1
          clear e1
          cases e2 : (t.text.toList == u.text.toList)
          · have t2 : (!(t.text.toList == u.text.toList)) = true := by rw [e2]; rfl
            have HF : Hid (allTok simTok l m = false) := Lib.hid (by rw [HE1.out, simTok, e2]; simp)
            go_wp2_with fail
            go_quiet (fail)
            go_wp2_with fail
            go_ret
            exact ⟨by rw [HF.out]; rfl, below_drewN HB.out _⟩
          · have t2 : (!(t.text.toList == u.text.toList)) = false := by rw [e2]; rfl
            by_cases e3 : t.num = u.num
            · have t3 : (t.num != u.num) = false := by rw [bne_eq_false_iff_eq]; exact e3
              have HF : Hid (allTok simTok l m = allTok simTok (l.drop (i + 1)) (m.drop (i + 1))) := Lib.hid (by rw [HE1.out, simTok, e2, e3, E1.out]; simp)
              clear e3
              go_wp2_with fail
              go_quiet (fail)
              go_wp2_with fail
              go_roundg (gk - 1)
              case measure => have := HG.out; omega
              case rel => exact ⟨i + 1, by go_num, Lib.hid (by have := HG.out; omega), Lib.hid (below_drewN HB.out _), HF⟩
            · have t3 : (t.num != u.num) = true := by rw [bne_iff_ne]; exact e3
              have HF : Hid (allTok simTok l m = false) := Lib.hid (by rw [HE1.out, simTok]; simp [e3])
              clear e3
              go_wp2_with fail
              go_quiet (fail)
              go_wp2_with fail
              go_ret
              exact ⟨by rw [HF.out]; rfl, below_drewN HB.out _⟩
        · have t1 : (t.kind != u.kind) = true := by rw [bne_iff_ne]; exact e1
          have HF : Hid (allTok simTok l m = false) := Lib.hid (by rw [HE1.out, simTok]; simp [e1])
          clear e1
          go_wp2_with fail
          go_quiet (fail)
          go_wp2_with fail
          go_ret
          exact ⟨by rw [HF.out]; rfl, below_drewN HB.out _⟩
      · have HF : Hid (allTok simTok l m = true) := Lib.hid (by rw [HE.out, List.drop_of_length_le (by omega), List.drop_of_length_le (by have := HLM.out; omega)]; rfl)
        go_wp2_with fail
        go_ret
        exact ⟨by rw [HF.out]; rfl, HB.out⟩
  · have HF : Hid (allTok simTok l m = false) := Lib.hid (allTok_len _ _ _ hlm)
    have hlm2 : ((l.length : Int) != (m.length : Int)) = true := by rw [bne_iff_ne]; omega
    clear hlm
    go_enter Tryd.func16, Tryd.ntmps16
    go_wp2_with fail
    go_ret
    exact ⟨by rw [HF.out]; rfl, Below.refl _ w⟩
def lineTok (a b : Tok) : Bool := a.line == b.line
def sameToks (a b : List Tok) : Bool := allTok simTok a b && allTok lineTok a b
set_option maxHeartbeats 4000000 in
set_option maxRecDepth 100000 in
theorem same_any (A1 A2 : Option Addr) (l m : List Tok) (c1 c2 : Nat) (w : World) (hr1 : Reads w A1 (toks l)) (hr2 : Reads w A2 (toks m)) (hl : l.length < 1000000000) (hm : m.length < 1000000000) :
    Calls Tryd.prog 9 #[.slice A1 l.length c1, .slice A2 m.length c2] w fun e w' => e = .returned (.bool (sameToks l m)) ∧ Below w.heap.size w w' := by
  have HR1 := Lib.hid hr1
  have HR2 := Lib.hid hr2
  have HM := Lib.hid hm
  clear hr1 hr2 hm
  go_enter Tryd.func9, Tryd.ntmps9
  go_wp2_with fail
  refine (similar_any A1 A2 l m c1 c2 _ HR1.out HR2.out hl HM.out).mono ?_
  rintro e w1 ⟨rfl, hb1⟩
  have HB1 := Lib.hid hb1
  clear hb1
  cases hs : allTok simTok l m
  · have HF : Hid (sameToks l m = false) := Lib.hid (by unfold sameToks; rw [hs]; rfl)
    go_wp2_with fail
    go_ret
    exact ⟨by rw [HF.out]; rfl, HB1.out⟩
  · have HLM : Hid (l.length = m.length) := Lib.hid (by
      rcases Decidable.em (l.length = m.length) with h | h
      · exact h
      · rw [allTok_len _ _ _ h] at hs; cases hs)
    have HS := Lib.hid hs
    go_wp2_with fail
    go_loopg [5] l.length (fun g v5 wx => ∃ (i : Nat), v5 = .int .i64 i ∧ Hid (i + g = l.length) ∧ Hid (Below w.heap.size w wx) ∧ Hid (allTok lineTok l m = allTok lineTok (l.drop i) (m.drop i)))
    case atStart => exact ⟨0, rfl, Lib.hid (by omega), HB1, Lib.hid rfl⟩
    case round =>
      obtain ⟨i, rfl, HG, HB, HE⟩ := hrel
      by_cases hlt : i < l.length
      · have hlt2 : i < m.length := by have := HLM.out; omega
        obtain ⟨t, ht⟩ : ∃ t, l[i]? = some t := ⟨_, List.getElem?_eq_getElem hlt⟩
        obtain ⟨u, hu⟩ : ∃ t, m[i]? = some t := ⟨_, List.getElem?_eq_getElem hlt2⟩
        obtain ⟨ad1, rfl, hcell1⟩ := HR1.out (by intro h; have := congrArg List.length h; rw [toks_length] at this; simp at this; omega)
        obtain ⟨ad2, rfl, hcell2⟩ := HR2.out (by intro h; have := congrArg List.length h; rw [toks_length] at this; simp at this; omega)
        obtain ⟨p0, p1, p2, p3⟩ := tok_below (reads_tok hcell1 i t ht) wr HB.out
        obtain ⟨q0, q1, q2, q3⟩ := tok_below (reads_tok hcell2 i u hu) wr HB.out
        have HE1 : Hid (allTok lineTok l m = (lineTok t u && allTok lineTok (l.drop (i + 1)) (m.drop (i + 1)))) := Lib.hid (by rw [HE.out, drop_at hlt ht, drop_at hlt2 hu]; rfl)
        have i1 : (0 : Int) ≤ (i : Int) := by omega
        have i2 : (i : Int) < (l.length : Int) := by omega
        have i3 : (i : Int) < (m.length : Int) := by omega
        clear hcell1 hcell2 ht hu
        by_cases e1 : t.line = u.line
        · have t1 : (t.line != u.line) = false := by rw [bne_eq_false_iff_eq]; exact e1
          have HF : Hid (allTok lineTok l m = allTok lineTok (l.drop (i + 1)) (m.drop (i + 1))) := Lib.hid (by rw [HE1.out, lineTok, e1]; simp)
          clear e1
          go_wp2_with fail
          go_quiet (fail)
          go_wp2_with fail
          go_roundg (gk - 1)
          case measure => have := HG.out; omega
          case rel => exact ⟨i + 1, by go_num, Lib.hid (by have := HG.out; omega), Lib.hid (below_drewN HB.out _), HF⟩
        · have t1 : (t.line != u.line) = true := by rw [bne_iff_ne]; exact e1
          have HF : Hid (sameToks l m = false) := Lib.hid (by unfold sameToks; rw [HE1.out, lineTok]; simp [e1])
          clear e1
          go_wp2_with fail
          go_quiet (fail)
          go_wp2_with fail
          go_ret
          exact ⟨by rw [HF.out]; rfl, below_drewN HB.out _⟩
      · have HF : Hid (sameToks l m = true) := Lib.hid (by unfold sameToks; rw [HS.out, HE.out, List.drop_of_length_le (by omega), List.drop_of_length_le (by have := HLM.out; omega)]; rfl)
        go_wp2_with fail
        go_ret
        exact ⟨by rw [HF.out]; rfl, HB.out⟩
/-- The reference's text: what a token leads on. -/
def refSep (t p : Tok) : Bool := decide (t.kind ≤ 2) && decide (p.kind ≤ 2) && decide (t.kind ≥ 1) && decide (p.kind ≥ 1)
def refPrintFrom (p : Option Tok) : List Tok → List UInt8
  | [] => []
  | t :: r => (if (p.map (refSep t)).getD false then [32] else []) ++ (t.text.data.toList ++ refPrintFrom (some t) r)
def prevT (l : List Tok) (i : Nat) : Option Tok := if i = 0 then none else l[i - 1]?
theorem refPrint_size (p : Option Tok) (l : List Tok) : (refPrintFrom p l).length ≤ l.length + textSize l := by
  induction l generalizing p with
  | nil => simp [refPrintFrom]
  | cons t r ih =>
    have := ih (some t)
    have hs : t.text.data.toList.length = t.text.size := by rw [Array.length_toList]; rfl
    simp only [refPrintFrom, List.length_append, List.length_cons, textSize, List.map_cons, List.sum_cons, hs] at this ⊢
    split <;> simp <;> omega
set_option maxHeartbeats 4000000 in
set_option maxRecDepth 100000 in
theorem refPrint_any (A : Option Addr) (l : List Tok) (c : Nat) (w : World) (hr : Reads w A (toks l)) (hl : l.length < 1000000000) (hz : textSize l < 100000000000) :
    Calls Tryd.prog 7 #[.slice A l.length c] w fun e w' => e = .returned (.string ⟨(refPrintFrom none l).toArray⟩) ∧ Below w.heap.size w w' := by
  have HR := Lib.hid hr
  have HZ := Lib.hid hz
  clear hr hz
  go_enter Tryd.func7, Tryd.ntmps7
  go_wp2_with fail
  go_loopg [3, 4] l.length (fun g v3 v4 wx => ∃ (i : Nat) (s : ByteArray), v3 = .string s ∧ v4 = .int .i64 i ∧ Hid (i + g = l.length) ∧ Hid (Below w.heap.size w wx) ∧ Hid (s.data.toList ++ refPrintFrom (prevT l i) (l.drop i) = refPrintFrom none l))
  case atStart => exact ⟨0, ⟨#[]⟩, rfl, rfl, Lib.hid (by omega), Lib.hid (Below.refl _ w), Lib.hid rfl⟩
  case round =>
    obtain ⟨i, s, rfl, rfl, HG, HB, HE⟩ := hrel
    by_cases hlt : i < l.length
    · obtain ⟨t, ht⟩ : ∃ t, l[i]? = some t := ⟨_, List.getElem?_eq_getElem hlt⟩
      obtain ⟨ad, rfl, hcell⟩ := HR.out (by intro h; have := congrArg List.length h; rw [toks_length] at this; simp at this; omega)
      obtain ⟨p0, p1, p2, p3⟩ := tok_below (reads_tok hcell i t ht) wr HB.out
      have HE1 : Hid (s.data.toList ++ ((if ((prevT l i).map (refSep t)).getD false then [32] else []) ++ (t.text.data.toList ++ refPrintFrom (some t) (l.drop (i + 1)))) = refPrintFrom none l) := Lib.hid (by rw [← HE.out, drop_at hlt ht]; rfl)
      have HPT : Hid (prevT l (i + 1) = some t) := Lib.hid (by unfold prevT; simp [ht])
      have HSZ : Hid (s.size ≤ l.length + textSize l) := Lib.hid (by
        have h := congrArg List.length HE.out
        have h2 := refPrint_size none l
        have h3 : s.data.toList.length = s.size := by rw [Array.length_toList]; rfl
        rw [List.length_append] at h
        omega)
      have HTS : Hid (s.size + 1 + t.text.size < 1000000000000) := Lib.hid (by have h1 := textSize_mem (List.mem_of_getElem? ht); have h2 := HSZ.out; have h3 := HZ.out; omega)
      have hmx : s.size + 1 + t.text.size ≤ 9223372036854775807 := by have := HTS.out; omega
      clear hcell ht
      by_cases h0 : 0 < i
      · obtain ⟨t0, ht0⟩ : ∃ t0, l[i - 1]? = some t0 := ⟨_, List.getElem?_eq_getElem (by omega)⟩
        obtain ⟨ad', hae, hcell⟩ := HR.out (by intro h; have := congrArg List.length h; rw [toks_length] at this; simp at this; omega)
        obtain rfl : ad = ad' := by injection hae
        obtain ⟨q0, q1, q2, q3⟩ := tok_below (reads_tok hcell (i - 1) t0 ht0) wr HB.out
        have HPV : Hid (prevT l i = some t0) := Lib.hid (by unfold prevT; rw [if_neg (by omega), ht0])
        clear hcell ht0 hae
        by_cases c1 : t.kind ≤ 2
        · by_cases c2 : t0.kind ≤ 2
          · by_cases c3 : 1 ≤ t.kind
            · by_cases c4 : 1 ≤ t0.kind
              · have HF : Hid (((if ((prevT l i).map (refSep t)).getD false then [32] else []) : List UInt8) = [32]) := Lib.hid (by rw [HPV.out]; simp [refSep]; try omega)
                go_wp2_with fail
                go_roundg (gk - 1)
                case measure => have := HG.out; omega
                case rel => exact ⟨i + 1, _, rfl, by go_num, Lib.hid (by have := HG.out; omega), HB, Lib.hid (by rw [HPT.out, ← HE1.out, HF.out]; simp)⟩
              · have HF : Hid (((if ((prevT l i).map (refSep t)).getD false then [32] else []) : List UInt8) = []) := Lib.hid (by rw [HPV.out]; simp [refSep]; try omega)
                go_wp2_with fail
                go_roundg (gk - 1)
                case measure => have := HG.out; omega
                case rel => exact ⟨i + 1, _, rfl, by go_num, Lib.hid (by have := HG.out; omega), HB, Lib.hid (by rw [HPT.out, ← HE1.out, HF.out]; simp)⟩
            · have HF : Hid (((if ((prevT l i).map (refSep t)).getD false then [32] else []) : List UInt8) = []) := Lib.hid (by rw [HPV.out]; simp [refSep]; try omega)
              go_wp2_with fail
              go_roundg (gk - 1)
              case measure => have := HG.out; omega
              case rel => exact ⟨i + 1, _, rfl, by go_num, Lib.hid (by have := HG.out; omega), HB, Lib.hid (by rw [HPT.out, ← HE1.out, HF.out]; simp)⟩
          · have HF : Hid (((if ((prevT l i).map (refSep t)).getD false then [32] else []) : List UInt8) = []) := Lib.hid (by rw [HPV.out]; simp [refSep]; try omega)
            go_wp2_with fail
            go_roundg (gk - 1)
            case measure => have := HG.out; omega
            case rel => exact ⟨i + 1, _, rfl, by go_num, Lib.hid (by have := HG.out; omega), HB, Lib.hid (by rw [HPT.out, ← HE1.out, HF.out]; simp)⟩
        · have HF : Hid (((if ((prevT l i).map (refSep t)).getD false then [32] else []) : List UInt8) = []) := Lib.hid (by rw [HPV.out]; simp [refSep]; try omega)
          go_wp2_with fail
          go_roundg (gk - 1)
          case measure => have := HG.out; omega
          case rel => exact ⟨i + 1, _, rfl, by go_num, Lib.hid (by have := HG.out; omega), HB, Lib.hid (by rw [HPT.out, ← HE1.out, HF.out]; simp)⟩
      · have HPV : Hid (prevT l i = none) := Lib.hid (by unfold prevT; rw [if_pos (by omega)])
        have HF : Hid (((if ((prevT l i).map (refSep t)).getD false then [32] else []) : List UInt8) = []) := Lib.hid (by rw [HPV.out]; simp [refSep]; try omega)
        go_wp2_with fail
        go_roundg (gk - 1)
        case measure => have := HG.out; omega
        case rel => exact ⟨i + 1, _, rfl, by go_num, Lib.hid (by have := HG.out; omega), HB, Lib.hid (by rw [HPT.out, ← HE1.out, HF.out]; simp)⟩
    · have HF : Hid (s.data.toList = refPrintFrom none l) := Lib.hid (by rw [← HE.out, List.drop_of_length_le (by omega)]; simp [refPrintFrom])
      go_wp2_with fail
      go_ret
      exact ⟨by rw [← HF.out]; rfl, HB.out⟩
end Go.Proofs.YthpilhmfcbdeiaaDoor
