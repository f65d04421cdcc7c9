/- Layer 26's awake, and LexerPrints. -/
import Derived.Test.YthpilhmfcbdeiaaDoorLexM
set_option linter.unusedVariables false
set_option linter.unusedSimpArgs false
namespace Go.Proofs.YthpilhmfcbdeiaaDoor
open Go.RowKit
def VarsW (w : World) : Prop := Vars w.heap.size w.heap.size w
theorem VarsW.below {w w' : World} (h : VarsW w) (hb : Below w.heap.size w w') : VarsW w' := by
  obtain ⟨a, b, c, ⟨d1, d2⟩, ⟨e1, e2⟩, ⟨f1, f2⟩⟩ := Vars.but h (But.of hb)
  have := hb.size
  exact ⟨a, b, c, ⟨by omega, by omega⟩, ⟨by omega, by omega⟩, ⟨by omega, by omega⟩⟩
def want1 : List Tok := [⟨1, ⟨#[97, 49]⟩, 0, 1⟩, ⟨3, ⟨#[61]⟩, 0, 1⟩, ⟨2, ⟨#[45, 53]⟩, -5, 1⟩, ⟨4, ⟨#[10]⟩, 0, 1⟩]
theorem lex1 : lexTokens ⟨#[97, 49, 32, 61, 32, 45, 53, 32, 35, 32, 120]⟩ = (want1, 0, 0) := by kernel_rfl
theorem lex2 : lexTokens ⟨#[120, 10, 32, 48, 49]⟩ = ([], 2, 30) := by kernel_rfl
theorem lex3 : lexTokens ⟨#[49, 97]⟩ = ([], 1, 30) := by kernel_rfl
theorem lex4 : lexTokens ⟨#[45]⟩ = ([], 1, 30) := by kernel_rfl
theorem lex5 : lexTokens ⟨#[195, 169]⟩ = ([], 1, 30) := by kernel_rfl
theorem same1 : sameToks want1 want1 = true := by kernel_rfl
theorem print1 : lexPrint want1 = [97, 49, 61, 45, 53, 10] := by kernel_rfl
/-- A call of Tokens at a known text. -/
theorem tokens_at {s : ByteArray} {l : List Tok} {n e : Int} (h : lexTokens s = (l, n, e)) (hs : s.size ≤ 100000000) (w : World) (hV : VarsW w) :
    Calls Tryd.prog 8 #[.string s] w fun x w' => ∃ A c, x = .returned (.tuple #[.slice A l.length c, .int .i64 n, .int .i64 e]) ∧ Reads w' A (toks l) ∧ Below w.heap.size w w' := by
  refine (tokens_any s hs w hV).mono ?_
  rintro x w' ⟨v, rfl, ho, hb⟩
  rw [h] at ho ⊢
  obtain ⟨A, c, rfl⟩ := own_slice ho
  exact ⟨A, c, rfl, reads_own ho, hb⟩
theorem reads_block {w : World} {b : Nat} {cs : Array Value} {t : TypeId} {fr : Nat × Nat} (h : w.heap[b]? = some (.cells cs t fr)) : Reads w (some ⟨b, 0, none⟩) cs.toList := fun _ => ⟨_, rfl, World.news_of_block h⟩
set_option maxHeartbeats 4000000 in
set_option maxRecDepth 100000 in
theorem awake_any (w : World) (hV : VarsW w) : Calls Tryd.prog 4 #[] w fun e w' => e = .returned (.bool true) ∧ Below w.heap.size w w' := by
  have HV := Lib.hid hV
  clear hV
  go_enter Tryd.func4, Tryd.ntmps4
  go_wp2_with fail
  refine (tokens_at lex1 (by decide) _ HV.out).mono ?_
  rintro e w1 ⟨A1, c1, rfl, hr1, hb1⟩
  have HR1 := Lib.hid hr1
  have HB1 := Lib.hid hb1
  clear hr1 hb1
  go_wp2_with fail
  refine (tokens_at lex2 (by decide) _ (HV.out.below HB1.out)).mono ?_
  rintro e w2 ⟨A2, c2, rfl, hr2, hb2⟩
  have HB2 := Lib.hid (HB1.out.trans (hb2.mono HB1.out.size))
  have HR1 := Lib.hid (HR1.out.below hb2)
  clear hr2 hb2
  go_wp2_with fail
  refine (tokens_at lex3 (by decide) _ (HV.out.below HB2.out)).mono ?_
  rintro e w3 ⟨A3, c3, rfl, hr3, hb3⟩
  have HB3 := Lib.hid (HB2.out.trans (hb3.mono HB2.out.size))
  have HR1 := Lib.hid (HR1.out.below hb3)
  clear hr3 hb3
  go_wp2_with fail
  refine (tokens_at lex4 (by decide) _ (HV.out.below HB3.out)).mono ?_
  rintro e w4 ⟨A4, c4, rfl, hr4, hb4⟩
  have HB4 := Lib.hid (HB3.out.trans (hb4.mono HB3.out.size))
  have HR1 := Lib.hid (HR1.out.below hb4)
  clear hr4 hb4
  go_wp2_with fail
  refine (tokens_at lex5 (by decide) _ (HV.out.below HB4.out)).mono ?_
  rintro e w5 ⟨A5, c5, rfl, hr5, hb5⟩
  have HB5 := Lib.hid (HB4.out.trans (hb5.mono HB4.out.size))
  have HR1 := Lib.hid (HR1.out.below hb5)
  clear hr5 hb5
  go_wp2_with fail
  have hnew := hp_new w5 (.cells (toks want1).toArray 25) rfl
  have HB6 := Lib.hid (HB5.out.alloc HB5.out.size (.cells (toks want1).toArray 25))
  have HR1 := Lib.hid (HR1.out.below ((Below.refl _ w5).alloc (Nat.le_refl _) (.cells (toks want1).toArray 25)))
  have HN := Lib.hid hnew
  clear hnew
  refine (tokens_law A1 want1 c1 _ HR1.out (by decide)).mono ?_
  rintro e w7 ⟨v7, rfl, ho7, hb7⟩
  obtain ⟨A7, c7, rfl⟩ := own_slice ho7
  have HR7 := Lib.hid (reads_own ho7)
  have HB7 := Lib.hid (HB6.out.trans (hb7.mono HB6.out.size))
  have HR1 := Lib.hid (HR1.out.below hb7)
  have HW := Lib.hid ((reads_block HN.out).below hb7)
  clear ho7 hb7
  go_wp2_with fail
  refine (same_any _ _ want1 want1 _ _ _ HR7.out HW.out (by decide) (by decide)).mono ?_
  rintro e w8 ⟨rfl, hb8⟩
  rw [same1]
  have HB8 := Lib.hid (HB7.out.trans (hb8.mono HB7.out.size))
  have HR1 := Lib.hid (HR1.out.below hb8)
  clear hb8
  go_wp2_with fail
  refine (print_any A1 want1 c1 _ HR1.out (by decide) (by decide)).mono ?_
  rintro e w9 ⟨rfl, hb9⟩
  rw [print1]
  have HB9 := Lib.hid (HB8.out.trans (hb9.mono HB8.out.size))
  clear hb9
  go_wp2_with fail
  go_ret
  exact ⟨rfl, HB9.out⟩
end Go.Proofs.YthpilhmfcbdeiaaDoor
