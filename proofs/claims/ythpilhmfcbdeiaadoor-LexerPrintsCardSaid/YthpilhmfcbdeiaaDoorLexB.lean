/- The lexer's small functions. -/
import Derived.Test.YthpilhmfcbdeiaaDoorLexA
namespace Go.Proofs.YthpilhmfcbdeiaaDoor
open Go.RowKit
def isLetter (c : Int) : Bool := (decide (97 ≤ c) && decide (c ≤ 122)) || (decide (65 ≤ c) && decide (c ≤ 90))
def isDigit (c : Int) : Bool := decide (48 ≤ c) && decide (c ≤ 57)
theorem ret_bool {a b : Bool} (h : a = b) : Ending.returned (.bool a) = .returned (.bool b) := by rw [h]
theorem letter_any (c : Int) (w : World) : Calls Tryd.prog 21 #[.int .i32 c] w fun e w' => e = .returned (.bool (isLetter c)) ∧ w' = w := by
  go_enter Tryd.func21, Tryd.ntmps21
  go_wp2
  all_goals
    go_ret
    refine ⟨ret_bool ?_, rfl⟩
    rw [Bool.eq_iff_iff]; simp [isLetter]; omega
theorem digit_any (c : Int) (w : World) : Calls Tryd.prog 23 #[.int .i32 c] w fun e w' => e = .returned (.bool (isDigit c)) ∧ w' = w := by
  go_enter Tryd.func23, Tryd.ntmps23
  go_wp2
  all_goals
    go_ret
    refine ⟨ret_bool ?_, rfl⟩
    rw [Bool.eq_iff_iff]; simp [isDigit]; omega
/-- The bad line behind a fault on line l. -/
def badOf (bd l : Int) : Int := if bd = 0 then l else bd
theorem fail_any (B b f : Nat) (out : List Tok) (txt : List Int) (l bd : Int) (w : World) (h : ScAt B b f out txt l bd w) :
    Calls Tryd.prog 25 #[.pointer (some ⟨b, 0, none⟩)] w fun e w' => e = .returned (.tuple #[]) ∧ ScAt B b f out txt l (badOf bd l) w' ∧ But B b w w' := by
  obtain ⟨vo, vt, hb, hh, ho, ht⟩ := h
  have c3 := cell_of hh 3 _ rfl
  have c4 := cell_of hh 4 _ rfl
  have f4 := free_of hh 4
  by_cases h0 : bd = 0
  all_goals
    go_enter Tryd.func25, Tryd.ntmps25
    go_wp2
    go_end0
  · exact ⟨rfl, ⟨_, _, hb, by rw [badOf, if_pos h0]; exact hp_set hh 4 _, own_set ho _ (own_ne ho hh (by decide)), own_set ht _ (own_ne ht hh (by decide))⟩, (But.refl B b w).set _ _⟩
  · exact ⟨rfl, ⟨_, _, hb, by rw [badOf, if_neg h0]; exact hh, ho, ht⟩, But.refl B b w⟩
end Go.Proofs.YthpilhmfcbdeiaaDoor
