/- lexer.Print: the model and its contract. -/
import Derived.Test.YthpilhmfcbdeiaaDoorLexG
import Derived.Test.YthpilhmfcbdeiaaDoorBld
set_option linter.unusedVariables false
set_option linter.unusedSimpArgs false
namespace Go.Proofs.YthpilhmfcbdeiaaDoor
open Go.RowKit
def wideT (t : Tok) : Bool := t.kind == 1 || t.kind == 2
def printFrom (p : Bool) : List Tok → List UInt8
  | [] => []
  | t :: r => (if p && wideT t then [32] else []) ++ (t.text.data.toList ++ printFrom (wideT t) r)
def lexPrint (l : List Tok) : List UInt8 := printFrom false l
/-- A row of cells that is read at an address, if there is one. -/
def Reads (w : World) (A : Option Addr) (cs : List Value) : Prop := cs ≠ [] → ∃ ad, A = some ad ∧ ∀ j v, cs[j]? = some v → w.cell? (ad.add j) = some v
theorem agg4 (t : Tok) : (Value.agg #[.int .i64 t.kind, .string t.text, .int .i64 t.num, .int .i64 t.line]) = .agg t.cells.toArray := rfl
theorem wide_any (t : Tok) (w : World) : Calls Tryd.prog 11 #[.agg #[.int .i64 t.kind, .string t.text, .int .i64 t.num, .int .i64 t.line]] w fun e w' => e = .returned (.bool (wideT t)) ∧ Below w.heap.size w w' := by
  cases h1 : t.kind == 1
  · cases h2 : t.kind == 2
    all_goals
      have HF : Hid (wideT t = (t.kind == 2)) := Lib.hid (by unfold wideT; rw [h1]; rfl)
      go_enter Tryd.func11, Tryd.ntmps11
      go_wp2
      go_ret
      exact ⟨by rw [HF.out, h2]; rfl, (Below.refl _ w).alloc (Nat.le_refl _) _⟩
  · have HF : Hid (wideT t = true) := Lib.hid (by unfold wideT; rw [h1]; rfl)
    go_enter Tryd.func11, Tryd.ntmps11
    go_wp2
    go_ret
    exact ⟨by rw [HF.out]; rfl, (Below.refl _ w).alloc (Nat.le_refl _) _⟩
theorem toks_at (l : List Tok) (i : Nat) (t : Tok) (h : l[i]? = some t) (j : Nat) (v : Value) (hj : t.cells[j]? = some v) : (toks l)[i * 4 + j]? = some v := by
  induction l generalizing i with
  | nil => simp at h
  | cons x r ih =>
    have hx : x.cells.length = 4 := rfl
    show (x.cells ++ toks r)[i * 4 + j]? = some v
    cases i with
    | zero =>
      simp at h; subst h
      have : j < x.cells.length := by
        rcases Nat.lt_or_ge j x.cells.length with h' | h'
        · exact h'
        · rw [List.getElem?_eq_none h'] at hj; cases hj
      rw [List.getElem?_append_left (by omega)]; simpa using hj
    | succ i =>
      rw [List.getElem?_append_right (by omega), show (i + 1) * 4 + j - x.cells.length = i * 4 + j by omega]
      exact ih i (by simpa using h)
theorem add_off (ad : Addr) (i j : Nat) (hj : 0 < j) : ad.add (i + j) = ⟨(ad.add i).block, (ad.add i).off + j, none⟩ := by
  unfold Addr.add
  by_cases h : i = 0
  · subst h; simp; omega
  · rw [if_neg (by omega), if_neg h]; simp; omega
/-- The four cells of a token that is read. -/
theorem reads_tok {w : World} {ad : Addr} {l : List Tok} (h : ∀ j v, (toks l)[j]? = some v → w.cell? (ad.add j) = some v) (i : Nat) (t : Tok) (hi : l[i]? = some t) :
    w.cell? (ad.add (i * 4)) = some (.int .i64 t.kind) ∧ w.cell? ⟨(ad.add (i * 4)).block, (ad.add (i * 4)).off + 1, none⟩ = some (.string t.text) ∧
    w.cell? ⟨(ad.add (i * 4)).block, (ad.add (i * 4)).off + 2, none⟩ = some (.int .i64 t.num) ∧ w.cell? ⟨(ad.add (i * 4)).block, (ad.add (i * 4)).off + 3, none⟩ = some (.int .i64 t.line) := by
  refine ⟨h _ _ (toks_at l i t hi 0 _ rfl), ?_, ?_, ?_⟩
  · rw [← add_off _ _ 1 (by omega)]; exact h _ _ (toks_at l i t hi 1 _ rfl)
  · rw [← add_off _ _ 2 (by omega)]; exact h _ _ (toks_at l i t hi 2 _ rfl)
  · rw [← add_off _ _ 3 (by omega)]; exact h _ _ (toks_at l i t hi 3 _ rfl)
theorem bldT39 : BldT 39 := ⟨by kernel_rfl, by decide⟩
def textSize (l : List Tok) : Nat := (l.map fun t => t.text.size).sum
theorem textSize_mem {l : List Tok} {t : Tok} (h : t ∈ l) : t.text.size ≤ textSize l := by
  induction l with
  | nil => cases h
  | cons x r ih =>
    simp only [textSize, List.map_cons, List.sum_cons]
    rcases List.mem_cons.1 h with rfl | h
    · omega
    · have := ih h; unfold textSize at this; omega
theorem printFrom_size (p : Bool) (l : List Tok) : (printFrom p l).length ≤ l.length + textSize l := by
  induction l generalizing p with
  | nil => simp [printFrom]
  | cons t r ih =>
    have := ih (wideT t)
    have hs : t.text.data.toList.length = t.text.size := by rw [Array.length_toList]; rfl
    simp only [printFrom, List.length_append, List.length_cons, textSize, List.map_cons, List.sum_cons, hs] at this ⊢
    split <;> simp <;> omega
def prevW (l : List Tok) (i : Nat) : Bool := if i = 0 then false else ((l[i - 1]?).map wideT).getD false
structure PrintRel (l : List Tok) (N i : Nat) (wx : World) (bs : List UInt8) : Prop where
  bld : BldAt 39 (N + 1) N bs wx
  rest : bs ++ printFrom (prevW l i) (l.drop i) = lexPrint l
  le : i ≤ l.length
set_option maxHeartbeats 4000000 in
set_option maxRecDepth 100000 in
theorem print_any (A : Option Addr) (l : List Tok) (c : Nat) (w : World) (hr : Reads w A (toks l)) (hl : l.length < 1000000000) (hz : textSize l < 100000000000) :
    Calls Tryd.prog 5 #[.slice A l.length c] w fun e w' => e = .returned (.string ⟨(lexPrint l).toArray⟩) ∧ Below w.heap.size w w' := by
  have HR := Lib.hid hr
  have HL := Lib.hid hl
  have HZ := Lib.hid hz
  clear hr hz
  go_enter Tryd.func5, Tryd.ntmps5
  go_wp2_with fail
  go_loopg [9] l.length (fun g v9 wx => ∃ (i : Nat) (bs : List UInt8), v9 = .int .i64 i ∧ Hid (i + g = l.length) ∧ Hid (Below w.heap.size w wx) ∧ Hid (w.heap.size + 1 ≤ wx.heap.size) ∧ Hid (PrintRel l w.heap.size i wx bs))
  case atStart =>
    exact ⟨0, [], rfl, Lib.hid (by omega), Lib.hid ((Below.refl _ w).alloc (Nat.le_refl _) _), Lib.hid (by simp), Lib.hid ⟨⟨_, _, hp_new _ _ rfl, .inl rfl, World.ownsRow_nil _ _ _ _⟩, rfl, Nat.zero_le _⟩⟩
  case round =>
    obtain ⟨i, bs, rfl, HG, HB, HN, HP⟩ := hrel
    by_cases hlt : i < l.length
    · obtain ⟨t, ht⟩ : ∃ t, l[i]? = some t := ⟨_, List.getElem?_eq_getElem hlt⟩
      obtain ⟨ad, rfl, hcell⟩ := HR.out (by intro h; have := congrArg List.length h; rw [toks_length] at this; simp at this; omega)
      obtain ⟨k0, k1, k2, k3⟩ := reads_tok hcell i t ht
      have q0 := (HB.out.cell (World.block_lt_of_cell? w _ k0)).trans k0
      have q1 := (HB.out.cell (World.block_lt_of_cell? w _ k1)).trans k1
      have q2 := (HB.out.cell (World.block_lt_of_cell? w _ k2)).trans k2
      have q3 := (HB.out.cell (World.block_lt_of_cell? w _ k3)).trans k3
      have HC := Lib.hid hcell
      have HT := Lib.hid ht
      have hblk := World.block_lt_of_cell? w _ k0
      have hsz := HB.out.size
      clear hcell ht k0 k1 k2 k3
      obtain ⟨b1, b2, b3⟩ := HP.out
      have HLN : Hid (bs.length ≤ l.length + textSize l) := Lib.hid (by
        have h := congrArg List.length b2
        have h2 := printFrom_size false l
        rw [List.length_append] at h
        unfold lexPrint at h
        omega)
      have HTS : Hid (bs.length + 1 + t.text.size < 1000000000000) := Lib.hid (by have h1 := textSize_mem (List.mem_of_getElem? HT.out); have h2 := HLN.out; have h3 := HZ.out; omega)
      have HB1 := Lib.hid b1
      have HE : Hid (bs ++ ((if prevW l i && wideT t then [32] else []) ++ (t.text.data.toList ++ printFrom (wideT t) (l.drop (i + 1)))) = lexPrint l) := Lib.hid (by
        rw [← b2]
        have hd : l.drop i = t :: l.drop (i + 1) := by
          rw [List.drop_eq_getElem_cons hlt]
          have := HT.out
          rw [List.getElem?_eq_getElem hlt] at this
          rw [Option.some.inj this]
        rw [hd]; rfl)
      have HW : Hid (prevW l (i + 1) = wideT t) := Lib.hid (by unfold prevW; simp [HT.out])
      clear b1 b2 b3
      by_cases h0 : 0 < i
      · obtain ⟨t0, ht0⟩ : ∃ t0, l[i - 1]? = some t0 := ⟨_, List.getElem?_eq_getElem (by omega)⟩
        obtain ⟨k0, k1, k2, k3⟩ := reads_tok HC.out (i - 1) t0 ht0
        have HPW : Hid (prevW l i = wideT t0) := Lib.hid (by unfold prevW; rw [if_neg (by omega), ht0]; rfl)
        have p0 := (HB.out.cell (World.block_lt_of_cell? w _ k0)).trans k0
        have p1 := (HB.out.cell (World.block_lt_of_cell? w _ k1)).trans k1
        have p2 := (HB.out.cell (World.block_lt_of_cell? w _ k2)).trans k2
        have p3 := (HB.out.cell (World.block_lt_of_cell? w _ k3)).trans k3
        have hblk2 := World.block_lt_of_cell? w _ k0
        have hbk3 : (ad.add ((i - 1) * 4)).block < wr.heap.size := Nat.lt_of_lt_of_le (World.block_lt_of_cell? w _ k0) HB.out.size
        clear ht0 k0 k1 k2 k3
        go_wp2_with fail
        refine (wide_any t0 _).mono ?_
        rintro e w1 ⟨rfl, hb1⟩
        have hnb := hp_below hb1 (hp_new wr (.cells #[.int .i64 t.kind, .string t.text, .int .i64 t.num, .int .i64 t.line] 40) rfl) (by simp)
        have n0 := cell_of hnb 0 _ rfl
        have n1 := cell_of hnb 1 _ rfl
        have n2 := cell_of hnb 2 _ rfl
        have n3 := cell_of hnb 3 _ rfl
        have HNB := Lib.hid hnb
        have HQ := Lib.hid (((Below.refl wr.heap.size wr).alloc (Nat.le_refl _) _).trans (hb1.mono (by simp)))
        have HQN := Lib.hid hb1.size
        clear hb1 hnb
        cases hw0 : wideT t0
        · go_wp2_with fail
          refine (writeString_any 39 (w.heap.size + 1) w.heap.size bldT39 bs t.text _ (HB1.out.below HQ.out) (by have := HN.out; have := HQ.out.size; omega) (by have := HTS.out; simp; omega)).mono ?_
          rintro e w5 ⟨rfl, hbd, hbt, _⟩
          have HBD := Lib.hid hbd
          have HBT := Lib.hid ((HB.out.trans (HQ.out.mono (by have := HN.out; omega))).trans (hbt.toBelow (by omega) (Nat.le_refl _)))
          have HNT := Lib.hid hbt.size
          clear hbd hbt
          go_wp2_with fail
          go_roundg (gk - 1)
          case measure => have := HG.out; omega
          case rel => exact ⟨i + 1, _, by go_num, Lib.hid (by have := HG.out; omega), HBT, Lib.hid (by have := HNT.out; have := HN.out; have := HQ.out.size; omega), Lib.hid ⟨HBD.out, by rw [HW.out, ← HE.out, HPW.out, hw0]; simp, by omega⟩⟩
        · go_wp2_with fail
          refine (wide_any t _).mono ?_
          rintro e w2 ⟨rfl, hb2⟩
          have hnb := hp_below hb2 HNB.out (lt_of HNB.out)
          have m0 := cell_of hnb 0 _ rfl
          have m1 := cell_of hnb 1 _ rfl
          have m2 := cell_of hnb 2 _ rfl
          have m3 := cell_of hnb 3 _ rfl
          have HQ2 := Lib.hid (HQ.out.trans (hb2.mono HQ.out.size))
          have HNB2 := Lib.hid hnb
          clear hb2 hnb
          cases hw1 : wideT t
          · go_wp2_with fail
            refine (writeString_any 39 (w.heap.size + 1) w.heap.size bldT39 bs t.text _ (HB1.out.below HQ2.out) (by have := HN.out; have := HQ2.out.size; omega) (by have := HTS.out; simp; omega)).mono ?_
            rintro e w5 ⟨rfl, hbd, hbt, _⟩
            have HBD := Lib.hid hbd
            have HBT := Lib.hid ((HB.out.trans (HQ2.out.mono (by have := HN.out; omega))).trans (hbt.toBelow (by omega) (Nat.le_refl _)))
            have HNT := Lib.hid hbt.size
            clear hbd hbt
            go_wp2_with fail
            go_roundg (gk - 1)
            case measure => have := HG.out; omega
            case rel => exact ⟨i + 1, _, by go_num, Lib.hid (by have := HG.out; omega), HBT, Lib.hid (by have := HNT.out; have := HN.out; have := HQ2.out.size; omega), Lib.hid ⟨HBD.out, by rw [HW.out, ← HE.out, HPW.out, hw0, hw1]; simp, by omega⟩⟩
          · go_wp2_with fail
            refine (writeByte_any 39 (w.heap.size + 1) w.heap.size bldT39 bs 32 _ (HB1.out.below HQ2.out) (by have := HN.out; have := HQ2.out.size; omega) (by have := HTS.out; omega)).mono ?_
            rintro e w3 ⟨rfl, hbd3, hbt3, hk3⟩
            have hnb := hk3.cells HNB2.out (by have := HN.out; omega) (by decide)
            have o0 := cell_of hnb 0 _ rfl
            have o1 := cell_of hnb 1 _ rfl
            have o2 := cell_of hnb 2 _ rfl
            have o3 := cell_of hnb 3 _ rfl
            have HBD3 := Lib.hid hbd3
            have HBT3 := Lib.hid ((HB.out.trans (HQ2.out.mono (by have := HN.out; omega))).trans (hbt3.toBelow (by omega) (Nat.le_refl _)))
            have HNT3 := Lib.hid hbt3.size
            clear hbd3 hbt3 hk3 hnb
            go_wp2_with fail
            refine (writeString_any 39 (w.heap.size + 1) w.heap.size bldT39 (bs ++ [32]) t.text _ HBD3.out (by have := HN.out; have := HQ2.out.size; have := HNT3.out; omega) (by have := HTS.out; simp; omega)).mono ?_
            rintro e w5 ⟨rfl, hbd, hbt, _⟩
            have HBD := Lib.hid hbd
            have HBT := Lib.hid (HBT3.out.trans (hbt.toBelow (by omega) (Nat.le_refl _)))
            have HNT := Lib.hid hbt.size
            clear hbd hbt
            go_wp2_with fail
            go_roundg (gk - 1)
            case measure => have := HG.out; omega
            case rel => exact ⟨i + 1, _, by go_num, Lib.hid (by have := HG.out; omega), HBT, Lib.hid (by have := HNT.out; have := HN.out; have := HNT3.out; have := HQ2.out.size; omega), Lib.hid ⟨HBD.out, by rw [HW.out, ← HE.out, HPW.out, hw0, hw1]; simp, by omega⟩⟩
      · have HPW : Hid (prevW l i = false) := Lib.hid (by unfold prevW; rw [if_pos (by omega)])
        go_wp2_with fail
        refine (writeString_any 39 (w.heap.size + 1) w.heap.size bldT39 bs t.text _ (HB1.out.below ((Below.refl _ wr).alloc (Nat.le_refl _) _)) (by have := HN.out; simp; omega) (by have := HTS.out; simp; omega)).mono ?_
        rintro e w5 ⟨rfl, hbd, hbt, _⟩
        have HBD := Lib.hid hbd
        have HBT := Lib.hid ((HB.out.alloc (by have := HN.out; omega) _).trans (hbt.toBelow (by omega) (Nat.le_refl _)))
        have HNT := Lib.hid hbt.size
        clear hbd hbt
        go_wp2_with fail
        go_roundg (gk - 1)
        case measure => have := HG.out; omega
        case rel => exact ⟨i + 1, _, by go_num, Lib.hid (by have := HG.out; omega), HBT, Lib.hid (by have := HNT.out; have := HN.out; simp at *; omega), Lib.hid ⟨HBD.out, by rw [HW.out, ← HE.out, HPW.out]; simp, by omega⟩⟩
    · obtain ⟨b1, b2, b3⟩ := HP.out
      have HE : Hid (bs = lexPrint l) := Lib.hid (by rw [← b2, List.drop_of_length_le (by omega)]; simp [printFrom])
      have HB1 := Lib.hid b1
      clear b1 b2
      go_wp2_with fail
      refine (string_any 39 (w.heap.size + 1) w.heap.size bldT39 bs _ HB1.out HN.out).mono ?_
      rintro e w2 ⟨rfl, hbt⟩
      have HBT := Lib.hid (HB.out.trans (hbt.toBelow (by omega) (Nat.le_refl _)))
      clear hbt
      go_wp2_with fail
      go_ret
      exact ⟨by rw [← HE.out]; rfl, HBT.out⟩
end Go.Proofs.YthpilhmfcbdeiaaDoor
