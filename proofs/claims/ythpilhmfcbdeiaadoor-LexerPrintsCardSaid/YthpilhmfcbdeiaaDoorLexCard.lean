/- The lexer's law LexerPrints answers true for every list of reference tokens, and leaves that list as it was: the tied card of that row. -/
import Derived.Test.YthpilhmfcbdeiaaDoorLexRow
namespace Go.Proofs.YthpilhmfcbdeiaaDoor
open Go
/-- LexerPrints answers true for every list of tokens and leaves it as it was, its listed variables tied to the program's text. -/
theorem lexerPrints_card : Rows.LexerPrintsCardSaid :=
  Claim7.holds_tied_plain_at .later [] [.data, .data, .data, .sentinel, .sentinel] true (true, "b3befdf28fe36539407775e30cd863d2946eafe6a54e01ca5fd7e6c7ce5aa111") true
    lexerPrints_holds (fun _ h => by cases h) (by kernel_rfl) (fun _ h => by cases h) lexerPrints_row_tie rfl ⟨rfl, rfl⟩ (by kernel_rfl) rfl
    (fun f fn hf hfn => by
      obtain rfl : f = 3 := Option.some.inj ((show Tryd.prog.funcNamed "regcert/regcertlaw26.LexerPrints" = some 3 by kernel_rfl).symm.trans hf) |>.symm
      obtain rfl : fn = Tryd.f3 := (Option.some.inj (Tryd.func3.symm.trans hfn)).symm
      exact ⟨by kernel_rfl, fun j t ht => by
        rw [Tryd.params3] at ht
        have h3 : t = 22 := by
          rcases j with _ | j
          · simpa using ht.symm
          · simp at ht
        subst h3
        exact (show Tryd.prog.wantsStandIn 22 = false by kernel_rfl)⟩)
    (by kernel_rfl)
end Go.Proofs.YthpilhmfcbdeiaaDoor
