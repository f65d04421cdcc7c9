/- strings.ContainsRune at an ASCII text and any rune that a range over a string hands over. -/
import Derived.Test.YthpilhmfcbdeiaaDoorBase
import Derived.Test.YthpilhmfcbdeiaaDoorShelf
import Derived.Lib.OthersKept
import Derived.Lib.IndexLaws
import Derived.Lib.IndexAny
import Derived.Deep.LoopGhost
set_option linter.unusedVariables false
set_option linter.unusedSimpArgs false
namespace Go.Proofs.YthpilhmfcbdeiaaDoor
open Go.RowKit
theorem hid_all {s : ByteArray} (ha : ∀ j (h : j < s.size), (s[j]'h).toNat < 128) : Hid (∀ j (h : j < s.size), (s[j]'h).toNat < 128) := Lib.hid ha
theorem indexByte_high {s : ByteArray} (ha : ∀ j (h : j < s.size), (s[j]'h).toNat < 128) (a b : Nat) (c : UInt8) (hc : 128 ≤ c.toNat) : Lib.indexByte (s.extract a b).data.toList c = -1 := by
  rcases Classical.em (Lib.indexByte (s.extract a b).data.toList c < 0) with h | h
  · have := Lib.indexByte_ge (s.extract a b).data.toList c; omega
  · obtain ⟨o, ho⟩ := Int.eq_ofNat_of_zero_le (Int.not_lt.1 h)
    have h1 := (Lib.indexByte_some ho).1
    have hm : c ∈ s.data.toList := mem_extract (List.mem_of_getElem? h1)
    obtain ⟨i, hi, hic⟩ := List.getElem_of_mem hm
    have hi' : i < s.size := by rw [Array.length_toList] at hi; exact hi
    have h2 := ha i hi'
    have h3 : s[i]'hi' = c := by rw [← hic]; rfl
    rw [h3] at h2
    omega
set_option maxHeartbeats 1000000 in
set_option maxRecDepth 100000 in
theorem indexRune_bad (s : ByteArray) (ha : ∀ j (h : j < s.size), (s[j]'h).toNat < 128) (w : World) :
    Calls Tryd.prog 27 #[.string s, .int .i32 65533] w fun e w' => e = .returned (.int .i64 (-1)) ∧ Below w.heap.size w w' := by
  have HA := hid_all ha
  clear ha
  go_enter Tryd.func27, Tryd.ntmps27
  go_wp2
  go_loopg [5, 6] s.size (fun g _ _ wx => ∃ i : Nat, i + g = s.size ∧ wx = w.iter s i)
  case atStart => exact ⟨0, by omega, rfl⟩
  case round =>
    obtain ⟨i, hig, rfl⟩ := hrel
    cases gk with
    | zero =>
      obtain rfl : i = s.size := by omega
      have hnx := run_next_end (P := Tryd.prog) w s s.size
      go_wp2
      go_ret
      exact ⟨rfl, (Below.refl _ w).alloc (Nat.le_refl _) _⟩
    | succ g =>
      have hi : i < s.size := by omega
      obtain ⟨x, hx⟩ : ∃ x : UInt8, s[i]'hi = x := ⟨_, rfl⟩
      have hx128 : x.toNat < 128 := by rw [← hx]; exact HA.out i hi
      have hnx := fun ty => run_next_ascii (P := Tryd.prog) w s i ty hi (by rw [hx]; exact hx128)
      rw [hx] at hnx
      clear hx
      go_wp2
      go_roundg g
      case measure => omega
      case rel => exact ⟨i + 1, by omega, rfl⟩
set_option maxHeartbeats 1000000 in
set_option maxRecDepth 100000 in
theorem indexRune_invalid (s : ByteArray) (r : Int) (h1 : 128 ≤ r) (hr : r ≠ 65533) (hv : Lib.validRune r = false) (w : World) :
    Calls Tryd.prog 27 #[.string s, .int .i32 r] w fun e w' => e = .returned (.int .i64 (-1)) ∧ Below w.heap.size w w' := by
  go_enter Tryd.func27, Tryd.ntmps27
  go_wp2_with (go_at_call 31; refine (Tryd.utf8_ValidRune _ _).mono ?_; rintro e w' ⟨rfl, hw⟩; rw [hw, hv])
  go_ret
  exact ⟨rfl, Below.refl _ w⟩
set_option maxHeartbeats 1000000 in
set_option maxRecDepth 100000 in
theorem indexRune_valid (s : ByteArray) (ha : ∀ j (h : j < s.size), (s[j]'h).toNat < 128) (hs : s.size ≤ 1000) (r : Int) (h1 : 128 ≤ r) (hr : r ≠ 65533) (hv : Lib.validRune r = true) (w : World) :
    Calls Tryd.prog 27 #[.string s, .int .i32 r] w fun e w' => e = .returned (.int .i64 (-1)) ∧ Below w.heap.size w w' := by
  obtain ⟨n2, n4, hlast⟩ := encode_facts r (by rw [validRune_eq]; exact hv) h1
  have hconv := fun w => run_convert_int_string (P := Tryd.prog) w 21 9 .i32 r (by rw [Tryd.underlying21]; rfl) Tryd.underlying9
  generalize Utf8.encode r = rs at n2 n4 hlast hconv
  have hl2 : rs.size - 1 < rs.size := by omega
  by_cases hlt : rs.size - 1 < s.size
  · have x2 := hlast hl2
    have HX : Hid (0 ≤ (rs.size : Int) - 1 ∧ (rs.size : Int) - 1 < (s.size : Int) ∧ (rs.size : Int) ≤ (s.size : Int) ∧ (rs.size : Int) - 1 < (rs.size : Int) ∧ (1 : Int) ≤ (rs.size : Int) ∧ (0 : Int) ≤ (rs.size : Int)) := Lib.hid ⟨by omega, by omega, by omega, by omega, by omega, by omega⟩
    have HN : Hid ((((s[rs.size - 1]'hlt).toNat : Int) != (rs[rs.size - 1]'hl2).toNat) = true) := Lib.hid (by have := ha _ hlt; rw [bne_iff_ne]; omega)
    have HI : Hid (Lib.indexByte ((s.data.toList.drop rs.size).take (s.size - rs.size)) (rs[rs.size - 1]'hl2) < 0) := Lib.hid (by have e := indexByte_high ha rs.size s.size _ x2; rw [ByteArray.data_extract, Array.toList_extract] at e; rw [show (s.data.toList.drop rs.size).take (s.size - rs.size) = s.data.toList.extract rs.size s.size from rfl, e]; decide)
    have HZ : Hid (IntKind.i64.wrap (rs.size : Int) = (rs.size : Int)) := Lib.hid (IntWalk.i64_in _ (by omega))
    clear ha hlast x2
    go_enter Tryd.func27, Tryd.ntmps27
    go_wp2_with (go_at_call 31; refine (Tryd.utf8_ValidRune _ _).mono ?_; rintro e w' ⟨rfl, hw⟩; rw [hw, hv])
    go_step3
    go_wp2_with fail
    go_loopg [9, 10] 0 (fun _ v9 _ wx => v9 = .int .i64 ((rs.size : Int) - 1) ∧ wx = w)
    case atStart => exact ⟨rfl, rfl⟩
    case round =>
      obtain ⟨rfl, rfl⟩ := hrel
      obtain ⟨i1, i2, i3, i4, i5, i6⟩ := HX.out
      go_wp2_with fail
      go_step3
      go_wp2_with fail
      have hne := HN.out
      go_quiet (fail)
      go_wp2_with fail
      clear hne
      have z1 := HZ.out
      go_quiet ((go_at_call 30; exact quiet_add_same (Tryd.strings_IndexByte _ _ _)))
      clear z1
      have hI := HI.out
      go_wp2_with fail
      simp only [Exit.noGoto_ret, Exit.inBlock, Exit.then]
      go_ret
      exact ⟨rfl, below_drewN (Below.refl _ _) _⟩
  · have i2 : ¬ (rs.size : Int) - 1 < (s.size : Int) := by omega
    have i3 : (s.size : Int) < (rs.size : Int) := by omega
    clear ha hlast
    go_enter Tryd.func27, Tryd.ntmps27
    go_wp2_with (go_at_call 31; refine (Tryd.utf8_ValidRune _ _).mono ?_; rintro e w' ⟨rfl, hw⟩; rw [hw, hv])
    go_step3
    go_wp2_with fail
    go_loopg [9, 10] 0 (fun _ v9 _ wx => v9 = .int .i64 ((rs.size : Int) - 1) ∧ wx = w)
    case atStart => exact ⟨rfl, rfl⟩
    case round =>
      obtain ⟨rfl, rfl⟩ := hrel
      go_wp2_with fail
      simp only [Exit.noGoto_ret, Exit.inBlock, Exit.then]
      go_ret
      exact ⟨rfl, Below.refl _ _⟩
theorem indexRune_high (s : ByteArray) (ha : ∀ j (h : j < s.size), (s[j]'h).toNat < 128) (hs : s.size ≤ 1000) (r : Int) (h1 : 128 ≤ r) (w : World) :
    Calls Tryd.prog 27 #[.string s, .int .i32 r] w fun e w' => e = .returned (.int .i64 (-1)) ∧ Below w.heap.size w w' := by
  by_cases hr : r = 65533
  · subst hr; exact indexRune_bad s ha w
  · by_cases hv : Lib.validRune r = true
    · exact indexRune_valid s ha hs r h1 hr hv w
    · exact indexRune_invalid s r h1 hr (by simpa using hv) w
/-- Is the rune one of the text's (ASCII) signs? -/
def hasRune (s : ByteArray) (r : Int) : Bool := s.data.toList.any fun b => decide ((b.toNat : Int) = r)
theorem hasRune_high {s : ByteArray} (ha : ∀ j (h : j < s.size), (s[j]'h).toNat < 128) {r : Int} (h1 : 128 ≤ r) : hasRune s r = false := by
  unfold hasRune
  rw [List.any_eq_false]
  intro b hb
  obtain ⟨i, hi, hib⟩ := List.getElem_of_mem hb
  have hi' : i < s.size := by rw [Array.length_toList] at hi; exact hi
  have := ha i hi'
  have h3 : s[i]'hi' = b := by rw [← hib]; rfl
  rw [h3] at this
  simp; omega
theorem hasRune_ascii {s : ByteArray} {r : Int} (h0 : 0 ≤ r) (h1 : r < 128) : decide (0 ≤ Lib.indexByte s.data.toList r.toNat.toUInt8) = hasRune s r := by
  rw [← Lib.contains_iff_indexByte]
  unfold hasRune
  rw [Bool.eq_iff_iff, List.contains_iff_mem, List.any_eq_true]
  constructor
  · intro h; exact ⟨_, h, by simp; omega⟩
  · rintro ⟨b, hb, h⟩
    have : r.toNat.toUInt8 = b := by
      have h := of_decide_eq_true h
      rw [← h]; simp
    rw [this]; exact hb
theorem containsRune_any (s : ByteArray) (ha : ∀ j (h : j < s.size), (s[j]'h).toNat < 128) (hs : s.size ≤ 1000) (r : Int) (h0 : 0 ≤ r) (w : World) :
    Calls Tryd.prog 18 #[.string s, .int .i32 r] w fun e w' => e = .returned (.bool (hasRune s r)) ∧ Below w.heap.size w w' := by
  by_cases h1 : r < 128
  · exact (Tryd.strings_ContainsRune_ascii s r w h0 h1).mono fun e w' ⟨he, hw⟩ => ⟨by rw [he, hasRune_ascii h0 h1], hw ▸ Below.refl _ _⟩
  · have hh := hasRune_high ha (r := r) (by omega)
    rw [hh]
    have HA := hid_all ha
    clear ha hh
    go_enter Tryd.func18, Tryd.ntmps18
    go_wp2_with (go_at_call 27; refine (indexRune_high _ HA.out hs r (by omega) _).mono ?_; rintro e w' ⟨rfl, hb⟩)
    go_ret
    exact ⟨rfl, hb⟩
end Go.Proofs.YthpilhmfcbdeiaaDoor
